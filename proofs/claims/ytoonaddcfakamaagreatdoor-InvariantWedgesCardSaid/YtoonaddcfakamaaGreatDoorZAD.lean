import Derived.Test.YtoonaddcfakamaaGreatDoorZAC
import Derived.Test.YtoonaddcfakamaaGreatDoorShelfG
import Derived.Lib.AppendIntMem
import Derived.BigCall
import Derived.BigGuard
import Derived.Lib.ParseIntBTie
import Derived.Lib.ParseIntBCases
import Derived.Lib.AppendZerosOnto
import Derived.WalkLawsBesides
import Derived.Deep.RegionWith
set_option linter.unusedVariables false
set_option linter.unusedSimpArgs false
set_option maxRecDepth 1000000
set_option maxHeartbeats 8000000
namespace Go.Proofs.YtoonaddcfakamaaGreatDoor
open Go.RowKit Go.Shelf Go.Sort Go.Lib Go.Proofs.Tryz
def ag (w : World) : Prop := Lib.TabIs prog w "internal/strconv.uint64pow10" .u64 Lib.pow10Tab
theorem ag.ext {w w':World} (h:ag w) (he:aA w w'):ag w':=by
 unfold ag Lib.TabIs at h |-;cases hg : prog.globalNamed "internal/strconv.uint64pow10" with
 | none=>simp [World.var?,hg] at h
 | some g =>
  refine var?_below he hg ?_ h;by_cases hlt:g<w.heap.size;·exact hlt
  ·simp [World.var?,hg,Array.getElem?_eq_none (show w.heap.size<=g by omega)] at h
theorem Z6y {a b:ByteArray} (h:a.data=b.data):Ending.returned (.string a)=.returned (.string b):=by
 cases a;cases b;simp only at h;rw [h]
theorem Z3y {k:IntKind} {a b:Int} (h:a=b):Ending.returned (.int k a)=.returned (.int k b):=by rw [h]
theorem Z1V {a b:ByteArray} (h:a.data.toList=b.data.toList):a=b:=by
 cases a;cases b;simp only at h;rw [ByteArray.mk.injEq];exact Array.toList_inj.1 h
theorem Z4C (w:World) (k:Nat) (os:Array Obj):aA w (grow (w.drewN k) os):=Lib.below_grow _ w (oz _) k os
theorem Z4v (w:World) (o:Obj) (dk:Array UInt8) (k:Nat):∃ os,(putRow (fun (b:UInt8)=>Value.int .u8 (b.toNat:Int)) (w.alloc o) w.heap.size 0 dk).drewN k=grow (w.drewN k) os:=by
 rw [alloc_eq_grow];obtain ⟨os',_,e⟩:=putRow_grow_new (fun (b:UInt8)=>Value.int .u8 (b.toNat:Int)) w #[o] w.heap.size 0 dk (oz _);exact ⟨os',by rw [e];rfl⟩
theorem M3_ (u:Nat) (w:World) (hu:u<18446744073709551616) (ht:ag w) :
  pI 305 #[.int .u64 u,.int .i64 10] w (.string (aE u)):=by
 have hN:aE u=⟨(Lib.decDigits u).toArray⟩:=rfl;by_cases hs:u<100
 ·have HS:Hid (∀ W,Calls prog 341 #[.int .i64 u] W fun e w'=>e=.returned (.string (aE u))/\w'=W):=fun W=>internal_strconv_small u hs W;clear hN
  go_enter func305,ntmps305
  go_wp2_with fail;refine (HS _).mono ?_;rintro e w' ⟨rfl,rfl⟩;go_wp2_with fail;go_ret;exact ⟨rfl,aA.refl _⟩
 ·have hu1:1<=u:=by omega
  have Im:Lib.nDigits u<=20:=by have:=Lib.numDigits_eq u hu1 hu;split at this <;> omega
  have px:Lib.nDigits u<=24:=by omega
  have qV:prog.arrayLen 371=24:=by simp [Program.arrayLen,underlying371]
  have Ko:∀ W,(Instr.sliceAt 371 (.pointer (some ⟨w.heap.size,0,none⟩)) none (some (.int .i64 (Lib.nDigits u:Int))) none).run prog W=.ok (.slice (some ⟨w.heap.size,0,none⟩) (Lib.nDigits u) 24) W:=fun W=>by
   rw [run_sliceAt_array_h W 371 ⟨w.heap.size,0,none⟩ (by simp [Program.arrayLen,Program.elem,underlying371]) .i64 (Lib.nDigits u:Int) (by omega) (by rw [qV];omega)];go_simp
  have hH0:=Lib.holds_zero0 w 371 (Lib.nDigits u) (by omega);have hfmt:=internal_strconv_formatBase10 w.heap.size 0 24 u (Array.replicate (Lib.nDigits u) 0) (w.alloc (.cells Lib.zeros24 371)) hH0 (by rw [Array.size_replicate];exact Lib.lt_pow_nDigits u) hu (by rw [Array.size_replicate];omega);rw [Array.size_replicate] at hfmt;have HH0:=oZ hH0;have HT:=oZ ht;have HN:Hid (∀ W,ag W->Calls prog 342 #[.int .u64 u] W fun e w'=>e=.returned (.int .i64 (Lib.nDigits u))/\w'=W):=fun W hW=>internal_strconv_numDigits u hu1 hu W hW;clear hH0 qV ht
  go_enter func305,ntmps305
  go_wp2_with fail;refine r_ (HN _ (HT.ext (aA.alloc _ _))) ?_;go_wp2_with fail;refine hfmt.mono ?_;rintro e w' ⟨rfl,k,v',dk,rfl,hF⟩;have hcv:(convert 107 9 (.slice (some ⟨w.heap.size,0,none⟩) (Lib.nDigits u) 24)).run prog ((putRow (fun (b:UInt8)=>Value.int .u8 (b.toNat:Int)) (w.alloc (.cells Lib.zeros24 371)) w.heap.size 0 dk).drewN k)=.ok (.string (aE u)) ((putRow (fun (b:UInt8)=>Value.int .u8 (b.toNat:Int)) (w.alloc (.cells Lib.zeros24 371)) w.heap.size 0 dk).drewN k):=by
   have h:=run_convert_bytes_back (P:=prog) ((putRow (fun (b:UInt8)=>Value.int .u8 (b.toNat:Int)) (w.alloc (.cells Lib.zeros24 371)) w.heap.size 0 dk).drewN k) 107 9 5 ⟨w.heap.size,0,none⟩ 24 (Lib.decDigits u) underlying107 underlying5 underlying9 (fun j hj=>by
    rw [Lib.row_is_numeral hF j hj,Lib.add_plain,World.cell?_drewN]
    exact cell?_putRow (fun (b:UInt8)=>Value.int .u8 (b.toNat:Int)) _ w.heap.size 0 _ dk HH0 (by rw [hF.size,Array.size_replicate]) j (by rw [hF.size];rw [Lib.decDigits_length] at hj;exact hj))
   rw [Lib.decDigits_length] at h;exact h
  clear hN HT HN hfmt;go_wp2_with fail;go_ret;obtain ⟨os,eo⟩:=Z4v w (.cells zeros24 371) dk k;exact ⟨rfl,by rw [eo];exact Z4C w k os⟩
theorem E1_ (u:Nat) (w:World) (hu:u<18446744073709551616) (ht:ag w) :
  pI 237 #[.int .u64 u,.int .i64 10] w (.string (aE u)):=by
 have HF:=oZ (M3_ u w hu ht);clear ht
 go_enter func237,ntmps237
 go_wp2_with fail;refine p_ HF ?_;intro w1 HE;clear HF;go_wp2_with fail;go_ret;exact ⟨rfl,HE⟩
theorem nd (u:Nat) (w:World) (hu:u<18446744073709551616) (ht:ag w) :
  pI 155 #[.int .u64 u] w (.string (aE u)):=by
 have HF:=oZ (E1_ u w hu ht);clear ht
 go_enter func155,ntmps155
 go_wp2_with fail;refine p_ HF ?_;intro w1 HE;clear HF;go_wp2_with fail;go_ret;exact ⟨rfl,HE⟩
theorem t0_ (u:Nat) (hu:u<18446744073709551616):Lib.parseUintB 64 (aE u).data.toList=.ok u:=by
 have h:=oH (Lib.decDigits u) 0 (mV u) (by rw [jk];exact hu);rw [jk] at h;rw [jw];have hne:Lib.decDigits u≠[]:=by
  have:=Lib.nDigits_pos u;rw [<- Lib.decDigits_length] at this;exact List.length_pos_iff.1 this
 unfold Lib.parseUintB;rw [if_neg hne,show (2^64-1:Nat)=18446744073709551615 by decide,Lib.parseUintM_64,h]
theorem O8_ (u:Nat) (w:World) (hu:u<18446744073709551616) (hs:(aE u).size<=100000000000) :
  pI 236 #[.string (aE u)] w (.tuple #[.int .u64 u,.bool true]):=by
 have HP:Hid (pI 304 #[.string (aE u),.int .i64 10,.int .i64 64] w (.tuple #[.int .u64 u,.nilIface])) :=
  (strconv_ParseUint_10_at64_ok (aE u) (by omega) u (t0_ u hu) w).mono fun e w' ⟨h1,h2⟩=>⟨h1,by
   rcases h2 with rfl | rfl;·exact aA.refl _
   ·exact ⟨rfl,rfl,rfl,by rw [Lib.bytesWorld_size];omega,fun j hj=>Lib.bytesWorld_at_old w _ _ j hj⟩⟩
 go_enter func236,ntmps236
 go_wp2_with fail;refine p_ HP ?_;intro w1 HE1;clear HP;go_wp2_with fail;go_ret2;exact ⟨rfl,HE1⟩
theorem M9_ (u v:Nat) (w:World) (hu:(aE u).size<=18) (hv:(aE v).size<=18) :
  pI 154 #[.string (aE u),.string (aE v)] w (.tuple #[.int .u64 u,.int .u64 v,.bool true]):=by
 have hb:∀ x:Nat,(aE x).size<=18->x<18446744073709551616:=by
  intro x hx;rw [fC] at hx;have h1:=Lib.lt_pow_nDigits x;have h2:10^Lib.nDigits x<=10^18:=Nat.pow_le_pow_right (by omega) hx;rw [show (10:Nat)^18=1000000000000000000 by decide] at h2;omega
 have H1:Hid (∀ W,pI 236 #[.string (aE u)] W (.tuple #[.int .u64 u,.bool true])):=fun W=>O8_ u W (hb u hu) (by omega);have H2:Hid (∀ W,pI 236 #[.string (aE v)] W (.tuple #[.int .u64 v,.bool true])):=fun W=>O8_ v W (hb v hv) (by omega);have q1:decide (18<((aE u).size:Int))=false:=pD (by omega);have q2:decide (18<((aE v).size:Int))=false:=pD (by omega);clear hb
 go_enter func154,ntmps154
 go_wp2_with fail;refine p_ (H1 _) ?_;intro w1 HE1;clear H1;go_wp2_with fail;refine q_ (H2 _) (aA.trans HE1) ?_;intro w2 HE2;clear H2;go_wp2_with fail;go_ret3;exact ⟨rfl,HE2⟩
theorem w0_ (u v:Nat) (w:World) (h:18<(aE u).size\/18<(aE v).size) :
  pI 154 #[.string (aE u),.string (aE v)] w (.tuple #[.int .u64 0,.int .u64 0,.bool false]):=by
 by_cases h1:18<(aE u).size
 ·have q1:decide (18<((aE u).size:Int))=true:=pE (by omega);clear h
  go_enter func154,ntmps154
  go_wp2_with fail;go_ret3;exact ⟨rfl,aA.refl _⟩
 ·have h2:18<(aE v).size:=by omega
  have q1:decide (18<((aE u).size:Int))=false:=pD (by omega);have q2:decide (18<((aE v).size:Int))=true:=pE (by omega);clear h
  go_enter func154,ntmps154
  go_wp2_with fail;go_ret3;exact ⟨rfl,aA.refl _⟩
end Go.Proofs.YtoonaddcfakamaaGreatDoor
namespace Go.Proofs.YtoonaddcfakamaaGreatDoor
open Go.RowKit Go.Proofs.Tryz
theorem aH.store {S:Nat->Prop} {w w':World} (h:aH S w w') {g:Nat} (hg:S g) (i:Nat) (v:Value):aH S w (w'.setCell ⟨g,i,none⟩ v) :=
 h.trans (mZ (fT w' g i v) (fun k hk=>by cases hk;exact hg))
structure iX (p q:List Nat) (n i k c b:Nat) (L:List Nat):Prop where
 len:L.length=p.length
 pcs:aP L
 lt:c<1000000000
 le:b<=1
 low:L.take i=p.take i
 rest:L.drop (i+k)=p.drop (i+k)
 val:lv L+n*(pB i*lv (q.take k))=lv p+(c+b)*pB (i+k)
theorem iX.start {p q:List Nat} {n i:Nat} (hp:aP p):iX p q n i 0 0 0 p :=
 ⟨rfl,hp,by omega,by omega,rfl,rfl,by rw [List.take_zero,eJ];simp⟩
theorem L2_ (L:List Nat) (a b:Nat) (h:b=a+1):L.drop b=(L.drop a).drop 1:=by rw [List.drop_drop,h]
theorem M0_ {L:List Nat} {i j x:Nat} (h:i<=j):(L.set j x).take i=L.take i:=List.take_set_of_le h
theorem iX.step {p q L:List Nat} {n i k c b x y c' b' m:Nat} (h:iX p q n i k c b L) (hx:L[i+k]?=some x) (hm:lv (q.take (k+1))=lv (q.take k)+pB k*m) (hc:c'=c+n*m) (hcl:c' / 1000000000<1000000000) (hy:y<1000000000) (hb:b'<=1)
  (he:y+c'%1000000000+b=x+b'*1000000000):iX p q n i (k+1) (c' / 1000000000) b' (L.set (i+k) y):=by
 refine ⟨by rw [List.length_set];exact h.len,h.pcs.set _ _ hy,hcl,hb,by rw [M0_ (by omega)];exact h.low,?_,?_⟩;·rw [List.drop_set_of_lt (by omega),L2_ L (i+k) (i+(k+1)) (by omega),L2_ p (i+k) (i+(k+1)) (by omega),h.rest]
 ·have:=Z1B (P:=pB (i+k)) (P':=pB (i+k+1)) (p:=lv L) (q:=pB i*lv (q.take k)) (n:=n) (c:=c) (b:=b) (x:=x) (y:=y) (qk:=m) (old:=lv p) (fD _) h.val c' b' (lv (L.set (i+k) y)) (pB i*lv (q.take (k+1))) hc he (oD y hx) (by rw [hm,lj];grind);exact this
theorem iX.done {p q L:List Nat} {n i c b:Nat} (h:iX p q n i (q.length+1) c b L) (hc:c=0):jD p q n i L b:=by
 subst hc;have hv:=h.val;rw [List.take_of_length_le (by omega),Nat.zero_add] at hv;exact ⟨h.len,h.pcs,h.low,by rw [show i+q.length+1=i+(q.length+1) by omega];exact h.rest,hv,h.le⟩
structure iT (p q:List Nat) (i k c:Nat) (L:List Nat):Prop where
 len:L.length=p.length
 pcs:aP L
 lt:c<=2
 low:L.take i=p.take i
 rest:L.drop (i+k)=p.drop (i+k)
 val:lv L+c*pB (i+k)=lv p+pB i*lv (q.take k)
theorem iT.start {p q:List Nat} {i:Nat} (hp:aP p):iT p q i 0 0 p :=
 ⟨rfl,hp,by omega,rfl,rfl,by rw [List.take_zero,eJ];simp⟩
theorem iT.step {p q L:List Nat} {i k c x y c' m:Nat} (h:iT p q i k c L) (hx:L[i+k]?=some x) (hm:lv (q.take (k+1))=lv (q.take k)+pB k*m) (NT:m<1000000000) (hc:c'=c+x+m) (hy:y=c'%1000000000) :
  iT p q i (k+1) (c' / 1000000000) (L.set (i+k) y):=by
 have hxb:=h.pcs.get hx;have hlt:=h.lt;refine ⟨by rw [List.length_set];exact h.len,h.pcs.set _ _ (by omega),by omega,by rw [M0_ (by omega)];exact h.low,?_,?_⟩;·rw [List.drop_set_of_lt (by omega),L2_ L (i+k) (i+(k+1)) (by omega),L2_ p (i+k) (i+(k+1)) (by omega),h.rest]
 ·have:=T0_ (P:=pB (i+k)) (P':=pB (i+k+1)) (c:=c) (x:=x) (y:=y) (ab:=m) (acc2:=pB i*lv (q.take (k+1))) (fD _) h.val hc hy (oD y hx) (by rw [hm,lj];grind);exact this
theorem iT.done {p q L:List Nat} {i c:Nat} (h:iT p q i (q.length+1) c L):ku p q i L c:=by
 have hv:=h.val;rw [List.take_of_length_le (by omega)] at hv;exact ⟨h.len,h.pcs,h.low,by rw [show i+q.length+1=i+(q.length+1) by omega];exact h.rest,hv⟩
theorem F3_ (q:List Nat):lv (q.take (q.length+1))=lv (q.take q.length)+pB q.length*0:=by
 rw [List.take_of_length_le (by omega),List.take_length];simp
theorem Z0m (B:Nat) (p q:List Nat) (n i g cap:Nat) (v:Value) (w:World) (h:aV B w (.slice (some ⟨g,0,none⟩) p.length cap) p) (hq:∀ w',aH (·=g) w w'->dG w' v q) (hpp:aP p) (BP:aP q) (hn:n<1000000000) (hi:i+q.length<p.length) (yn:p.length<=20000000000) :
  Calls prog 288 #[.slice (some ⟨g,0,none⟩) p.length cap,v,.int .u64 n,.int .i64 i] w fun e w'=>∃ L b,e=.returned (.bool (decide (0<b)))/\aV B w' (.slice (some ⟨g,0,none⟩) p.length cap) L/\jD p q n i L b/\aH (·=g) w w':=by
 obtain ⟨a,ca,rfl,Ci,AT,-⟩:=(hq w (aH.refl _ _)).open;have HQ:Hid (∀ w',aH (·=g) w w'->∀ (k:Nat) (x:Nat),q[k]?=some x->∃ b off,a=some ⟨b,off,none⟩/\w'.cell? ⟨b,off+k,none⟩=some (.int .u64 x)):=by
  intro w' hg k x hx;obtain ⟨a',ca',e,-,-,hc⟩:=(hq w' hg).open;simp only [Value.slice.injEq] at e;obtain ⟨rfl,-,rfl⟩:=e;obtain ⟨b,off,e,-,pP⟩:=hc (by rintro rfl;simp at hx);exact ⟨b,off,e,pP k x hx⟩
 have HO:=oZ h;have HQP:=oZ BP;have HK0:=oZ (iX.start (q:=q) (n:=n) (i:=i) hpp);obtain ⟨n',AI⟩:=pL p.length;rw [<- AI] at HO hi yn |-;have HN:=oZ AI;clear h hq hpp BP AI
 go_enter func288,ntmps288
 go_wp2_with fail
 go_loopw [9,10,11] (fun bb c t wr=>∃ (k cc b:Nat) (L:List Nat),k<=q.length+1/\t=.int .i64 k/\c=.int .u64 cc/\bb=.int .i64 b/\cc<1000000000/\b<=1/\Hid (aH (·=g) w wr)/\Hid (aV B wr (.slice (some ⟨g,0,none⟩) n' cap) L)/\Hid (iX p q n i k cc b L)/\Hid (k=q.length+1->cc=0)) (fun _ _ t _=>q.length+1-(intOf t).toNat)
 case atStart=>exact ⟨0,0,0,p,by omega,rfl,rfl,rfl,by omega,by omega,aH.refl _ _,HO,HK0,fun _=>rfl⟩
 case round =>
  obtain ⟨k,cc,b,L,hk,rfl,rfl,rfl,rh,hb,HG,HOL,HK,HZ⟩:=hrel;obtain ⟨wo,rfl⟩:∃ wo:World,wo=wr:=⟨_,rfl⟩;clear HO HK0;by_cases hlt:k<=q.length
  ·obtain ⟨x,hx⟩:∃ x,L[i+k]?=some x:=⟨_,oc (by rw [HK.out.len,<- HN.out];omega)⟩;obtain ⟨g1,f1⟩:=HOL.get hx;have hxb:=HK.pcs.get hx;have HX:=oZ hx;have tN:i+k<n':=(by omega);clear hx;by_cases hkl:k<q.length
   ·obtain ⟨z,hz⟩:∃ z,q[k]?=some z:=⟨_,oc hkl⟩;obtain ⟨bq,oq,rfl,g2⟩:=HQ wo HG k z hz;have hzb:=HQP.get hz;have hm:=m0_ hn hzb;obtain ⟨m,hmm⟩:∃ m,n*z=m:=⟨_,rfl⟩;rw [hmm] at hm;have yl:(n:Int)*(z:Int)=(m:Int):=(by rw [<- hmm];exact (Int.natCast_mul _ _).symm);obtain ⟨c',sn⟩:=pL (cc+m);have zb:(cc:Int)+(m:Int)=(c':Int):=(by omega);obtain ⟨r,hr⟩:=pL (c'%1000000000);obtain ⟨d,hd⟩:=pL (c' / 1000000000);have r6:(c':Int)%1000000000=(r:Int):=(by omega);have sV:(c':Int) / 1000000000=(d:Int):=(by omega);have xh:d<1000000000:=(by omega);have F7:c'<1000000000000000000:=(by omega);have CL:r<1000000000:=(by omega);have zU:¬ k+1=q.length+1:=(by omega);have HST:Hid (∀ y b',y<1000000000->b'<=1->y+r+b=x+b'*1000000000->iX p q n i (k+1) d b' (L.set (i+k) y)):=fun y b' hy ql he=>by
     rw [hd];exact HK.step HX (ju hz) (by rw [sn,hmm]) (by omega) hy ql (by rw [<- hr];exact he)
    clear hz hmm sn hr hd;by_cases hneg:(x:Int)-(r:Int)-(b:Int)<0
    ·obtain ⟨y,hy⟩:∃ y:Nat,(x:Int)-(r:Int)-(b:Int)+1000000000=(y:Int):=⟨((x:Int)-(r:Int)-(b:Int)+1000000000).toNat,by omega⟩;have hyb:y<1000000000:=(by omega);have HS2:=oZ (HST y 1 hyb (by omega) (by omega));have HO2:=oZ (HOL.set (i+k) y);have HG2:=oZ (HG.store rfl (i+k) (.int .u64 y));go_wp2_with fail;go_roundw
     case rel=>exact ⟨k+1,d,1,_,by omega,by go_num,rfl,rfl,xh,by omega,HG2,HO2,HS2,fun e=>absurd e zU⟩
     case measure=>simp [intOf];omega
    ·obtain ⟨y,hy⟩:∃ y:Nat,(x:Int)-(r:Int)-(b:Int)=(y:Int):=⟨((x:Int)-(r:Int)-(b:Int)).toNat,by omega⟩;have hyb:y<1000000000:=(by omega);have HS2:=oZ (HST y 0 hyb (by omega) (by omega));have HO2:=oZ (HOL.set (i+k) y);have HG2:=oZ (HG.store rfl (i+k) (.int .u64 y));go_wp2_with fail;go_roundw
     case rel=>exact ⟨k+1,d,0,_,by omega,by go_num,rfl,rfl,xh,by omega,HG2,HO2,HS2,fun e=>absurd e zU⟩
     case measure=>simp [intOf];omega
   ·obtain rfl:q.length=k:=(by omega);have r6:(cc:Int)%1000000000=(cc:Int):=(by omega);have sV:(cc:Int) / 1000000000=0:=(by omega);have HST:Hid (∀ y b',y<1000000000->b'<=1->y+cc+b=x+b'*1000000000->iX p q n i (q.length+1) 0 b' (L.set (i+q.length) y)):=fun y b' hy ql he=>by
     have:=HK.step HX (F3_ q) (c':=cc) (by simp) (by omega) hy ql (by rw [Nat.mod_eq_of_lt rh];exact he);rw [Nat.div_eq_of_lt rh] at this;exact this
    by_cases hneg:(x:Int)-(cc:Int)-(b:Int)<0
    ·obtain ⟨y,hy⟩:∃ y:Nat,(x:Int)-(cc:Int)-(b:Int)+1000000000=(y:Int):=⟨((x:Int)-(cc:Int)-(b:Int)+1000000000).toNat,by omega⟩;have hyb:y<1000000000:=(by omega);have HS2:=oZ (HST y 1 hyb (by omega) (by omega));have HO2:=oZ (HOL.set (i+q.length) y);have HG2:=oZ (HG.store rfl (i+q.length) (.int .u64 y));go_wp2_with fail;go_roundw
     case rel=>exact ⟨q.length+1,0,1,_,by omega,by go_num,rfl,rfl,by omega,by omega,HG2,HO2,HS2,fun _=>rfl⟩
     case measure=>simp [intOf]
    ·obtain ⟨y,hy⟩:∃ y:Nat,(x:Int)-(cc:Int)-(b:Int)=(y:Int):=⟨((x:Int)-(cc:Int)-(b:Int)).toNat,by omega⟩;have hyb:y<1000000000:=(by omega);have HS2:=oZ (HST y 0 hyb (by omega) (by omega));have HO2:=oZ (HOL.set (i+q.length) y);have HG2:=oZ (HG.store rfl (i+q.length) (.int .u64 y));go_wp2_with fail;go_roundw
     case rel=>exact ⟨q.length+1,0,0,_,by omega,by go_num,rfl,rfl,by omega,by omega,HG2,HO2,HS2,fun _=>rfl⟩
     case measure=>simp [intOf]
  ·have HK2:Hid (jD p q n i L b):=by
    obtain rfl:k=q.length+1:=(by omega);exact HK.done (HZ rfl)
   go_wp2_with fail;go_ret;exact ⟨L,b,by first | rfl | simp,HOL,HK2,HG⟩
theorem c2_ (B:Nat) (p q:List Nat) (i g cap:Nat) (v:Value) (w:World) (h:aV B w (.slice (some ⟨g,0,none⟩) p.length cap) p) (hq:∀ w',aH (·=g) w w'->dG w' v q) (hpp:aP p) (BP:aP q) (hi:i+q.length<p.length) (yn:p.length<=20000000000) :
  Calls prog 157 #[.slice (some ⟨g,0,none⟩) p.length cap,v,.int .i64 i] w fun e w'=>∃ L c,e=.returned (.tuple #[])/\aV B w' (.slice (some ⟨g,0,none⟩) p.length cap) L/\ku p q i L c/\aH (·=g) w w':=by
 obtain ⟨a,ca,rfl,Ci,AT,-⟩:=(hq w (aH.refl _ _)).open;have HQ:Hid (∀ w',aH (·=g) w w'->∀ (k:Nat) (x:Nat),q[k]?=some x->∃ b off,a=some ⟨b,off,none⟩/\w'.cell? ⟨b,off+k,none⟩=some (.int .u64 x)):=by
  intro w' hg k x hx;obtain ⟨a',ca',e,-,-,hc⟩:=(hq w' hg).open;simp only [Value.slice.injEq] at e;obtain ⟨rfl,-,rfl⟩:=e;obtain ⟨b,off,e,-,pP⟩:=hc (by rintro rfl;simp at hx);exact ⟨b,off,e,pP k x hx⟩
 have HO:=oZ h;have HQP:=oZ BP;have HK0:=oZ (iT.start (q:=q) (i:=i) hpp);obtain ⟨n',AI⟩:=pL p.length;rw [<- AI] at HO hi yn |-;have HN:=oZ AI;clear h hq hpp BP AI
 go_enter func157,ntmps157
 go_wp2_with fail
 go_loopw [6,7] (fun c t wr=>∃ (k cc:Nat) (L:List Nat),k<=q.length+1/\t=.int .i64 k/\c=.int .u64 cc/\cc<=2/\Hid (aH (·=g) w wr)/\Hid (aV B wr (.slice (some ⟨g,0,none⟩) n' cap) L)/\Hid (iT p q i k cc L)) (fun _ t _=>q.length+1-(intOf t).toNat)
 case atStart=>exact ⟨0,0,p,by omega,rfl,rfl,by omega,aH.refl _ _,HO,HK0⟩
 case round =>
  obtain ⟨k,cc,L,hk,rfl,rfl,rh,HG,HOL,HK⟩:=hrel;obtain ⟨wo,rfl⟩:∃ wo:World,wo=wr:=⟨_,rfl⟩;clear HO HK0;by_cases hlt:k<=q.length
  ·obtain ⟨x,hx⟩:∃ x,L[i+k]?=some x:=⟨_,oc (by rw [HK.out.len,<- HN.out];omega)⟩;obtain ⟨g1,f1⟩:=HOL.get hx;have hxb:=HK.pcs.get hx;have HX:=oZ hx;have tN:i+k<n':=(by omega);clear hx;by_cases hkl:k<q.length
   ·obtain ⟨z,hz⟩:∃ z,q[k]?=some z:=⟨_,oc hkl⟩;obtain ⟨bq,oq,rfl,g2⟩:=HQ wo HG k z hz;have hzb:=HQP.get hz;obtain ⟨c',sn⟩:∃ c',c'=cc+x+z:=⟨_,rfl⟩;have zb:(cc:Int)+(x:Int)+(z:Int)=(c':Int):=(by omega);obtain ⟨r,hr⟩:=pL (c'%1000000000);obtain ⟨d,hd⟩:=pL (c' / 1000000000);have r6:(c':Int)%1000000000=(r:Int):=(by omega);have sV:(c':Int) / 1000000000=(d:Int):=(by omega);have xh:d<=2:=(by omega);have HS2:Hid (iT p q i (k+1) d (L.set (i+k) r)):=by
     unfold Hid;rw [hd];exact HK.step HX (ju hz) hzb sn hr
    have HO2:=oZ (HOL.set (i+k) r);have HG2:=oZ (HG.store rfl (i+k) (.int .u64 r));clear hz sn hr hd;go_wp2_with fail;go_roundw
    case rel=>exact ⟨k+1,d,_,by omega,by go_num,rfl,xh,HG2,HO2,HS2⟩
    case measure=>simp [intOf];omega
   ·obtain rfl:q.length=k:=(by omega);obtain ⟨c',sn⟩:=pL (cc+x);have zb:(cc:Int)+(x:Int)=(c':Int):=(by omega);obtain ⟨r,hr⟩:=pL (c'%1000000000);obtain ⟨d,hd⟩:=pL (c' / 1000000000);have r6:(c':Int)%1000000000=(r:Int):=(by omega);have sV:(c':Int) / 1000000000=(d:Int):=(by omega);have xh:d<=2:=(by omega);have HS2:Hid (iT p q i (q.length+1) d (L.set (i+q.length) r)):=by
     unfold Hid;rw [hd];exact HK.step HX (F3_ q) (by omega) (by omega) hr
    have HO2:=oZ (HOL.set (i+q.length) r);have HG2:=oZ (HG.store rfl (i+q.length) (.int .u64 r));clear sn hr hd;go_wp2_with fail;go_roundw
    case rel=>exact ⟨q.length+1,d,_,by omega,by go_num,rfl,xh,HG2,HO2,HS2⟩
    case measure=>simp [intOf]
  ·have HK2:Hid (ku p q i L cc):=by
    obtain rfl:k=q.length+1:=(by omega);exact HK.done
   go_wp2_with fail;refine bodyPost_end (results_none rfl _ _ _) rfl ⟨L,cc,rfl,HOL,HK2,HG⟩
theorem aH.belowE {S:Nat->Prop} {w w':World} {B:Nat} (h:aH S w w') (hS:∀ k,S k->B<=k) (hB:B<=w.heap.size):Below B w w' :=
 ⟨h.os,h.tape,h.output,h.size,fun k hk=>h.block k (by omega) (fun hs=>by have:=hS k hs;omega)⟩
theorem aV.grownS {S:Nat->Prop} {B:Nat} {w w':World} {g n cap:Nat} {l:List Nat} (h:aV B w (.slice (some ⟨g,0,none⟩) n cap) l) (hg:aH S w w') (hS:¬ S g):aV B w' (.slice (some ⟨g,0,none⟩) n cap) l:=by
 refine ⟨h.1,?_⟩;rcases h.2 with ⟨e,_⟩ | ⟨g',cap',cur,e,hb,sh,rest⟩
 ·cases e
 ·simp only [Value.slice.injEq,Option.some.injEq,Addr.mk.injEq] at e;obtain ⟨⟨rfl,-,-⟩,-,rfl⟩:=e;exact .inr ⟨g,cap,cur,by rw [h.len],hb,(hg.block g (Array.getElem?_eq_some_iff.1 sh).1 hS).trans sh,rest⟩
structure fE (N n bv V k:Nat) (A O:List Nat):Prop where
 la:A.length=N
 pa:aP A
 lo:O.length=N-n
 po:aP O
 lt:lv (A.drop k)<bv
 val:lv A+bv*(pB k*lv (O.drop k))=V
theorem fE.start {A:List Nat} {N n bv V:Nat} (hA:aP A) (hl:A.length=N) (hn:n<=N) (pv:1<=n) (hz:A[N-1]?=some 0) (hb:pB (n-1)<=bv) (hV:lv A=V):fE N n bv V (N-n) A (List.replicate (N-n) 0):=by
 refine ⟨hl,hA,by simp,aP.zeros _,?_,?_⟩
 ·have h1:(A.drop (N-n))[n-1]?=some 0:=by rw [pF,show N-n+(n-1)=N-1 by omega];exact hz
  have hd:(A.drop (N-n)).drop (n-1+1)=[]:=List.drop_eq_nil_of_le (by rw [List.length_drop];omega);rw [gQ (A.drop (N-n)) (n-1) (by rw [List.length_drop];omega),fk h1,hd,eJ];simp only [Nat.mul_zero,Nat.add_zero];have:=fB ((hA.drop (N-n)).take (n-1));rw [om,List.length_drop,Nat.min_eq_left (by omega)] at this;omega
 ·rw [List.drop_eq_nil_of_le (by simp),eJ,Nat.mul_zero,Nat.mul_zero,Nat.add_zero,hV]
structure nH (W bv t s high a2:Nat):Prop where
 hb:∃ L bl,bv=(t*1000000000+s)*L+bl/\bl<L/\∃ wl,W=(high*1000000000+a2)*L+wl/\wl<L
 ht:0<t
 hs:s<1000000000
 ha2:a2<1000000000
 hbv:0<bv
 hW:W<1000000000*bv
theorem fE.knuth {A O b:List Nat} {N n m bv V j t s a0 a1 a2:Nat} (h:fE N n bv V (j+1) A O) (hb:bJ b) (sO:b.length=n) (E9:n=m+2) (hbv:lv b=bv) (hj:j+n<N) (ht:b[m+1]?=some t) (hs:b[m]?=some s)
  (h0:A[j+n]?=some a0) (h1:A[j+n-1]?=some a1) (h2:A[j+n-2]?=some a2):nH (lv (A.drop j)) bv t s (a0*1000000000+a1) a2:=by
 subst E9;have B9:t≠0:=hb.2 t (by rw [sO];exact ht);have yy:bv<pB (m+2):=by rw [<- hbv,<- sO];exact fB hb.1
 have hz:=o3_ h.lt yy;have e1:=Z6K sO ht hs;have e2:=Z41 (A:=A) (m:=m) (i:=j) (a0:=a0) (a1:=a1) (a2:=a2) (by rw [<- h0];congr 1) (by rw [<- h1];congr 1) (by rw [<- h2];congr 1) (by rw [show j+m+3=j+(m+2)+1 by omega];exact hz);have l1:=fB (hb.1.take m);rw [om,Nat.min_eq_left (by omega)] at l1;have l2:=fB ((h.pa.drop j).take m);rw [om,List.length_drop,Nat.min_eq_left (by have:=h.la;omega)] at l2;have sJ:0<bv:=by have:=h.lt;omega
 refine ⟨⟨pB m,_,hbv▸e1,l1,_,e2,l2⟩,by omega,hb.1.get hs,h.pa.get h2,sJ,?_⟩;have hx:A[j]?=some (A[j]'(by have:=h.la;omega)):=oc _;have hxb:=h.pa.get hx;rw [fk hx];have:=h.lt;omega
theorem fE.no {A O A' b:List Nat} {N n bv V j g:Nat} (h:fE N n bv V (j+1) A O) (hT:jD A b g j A' 0) (sO:b.length=n) (hbv:lv b=bv) (hj:j+n<N) (hg:lv (A.drop j) / bv<=g) (qR:g<1000000000):fE N n bv V j A' (O.set j g):=by
 have sJ:0<bv:=by have:=h.lt;omega
 obtain ⟨d1,d2⟩:=Z6V hT sO hbv sJ (by have:=h.la;omega) h.val hg;refine ⟨hT.len.trans h.la,hT.pcs,by rw [List.length_set];exact h.lo,h.po.set _ _ qR,d1,?_⟩;rw [fk (k:=j) (x:=g) (by rw [pH,if_pos rfl,if_pos (by rw [h.lo];omega)]),List.drop_set_of_lt (by omega)];exact d2
theorem fE.back {A O A' A'' b:List Nat} {N n bv V j g c:Nat} (h:fE N n bv V (j+1) A O) (hT:jD A b g j A' 1) (hB:ku A' b j A'' c) (sO:b.length=n) (hbp:aP b) (hbv:lv b=bv) (hj:j+n<N) (hg:g<=lv (A.drop j) / bv+1) (qR:g<1000000000):0<g/\fE N n bv V j A'' (O.set j (g-1)):=by
 have sJ:0<bv:=by have:=h.lt;omega
 have yy:bv<pB n:=by rw [<- hbv,<- sO];exact fB hbp
 obtain ⟨d0,d1,d2⟩:=Z4p hT hB sO hbv sJ yy (by have:=h.la;omega) h.lt h.val hg;refine ⟨d0,hB.len.trans (hT.len.trans h.la),hB.pcs,by rw [List.length_set];exact h.lo,h.po.set _ _ (by omega),d1,?_⟩;rw [fk (k:=j) (x:=g-1) (by rw [pH,if_pos rfl,if_pos (by rw [h.lo];omega)]),List.drop_set_of_lt (by omega)];exact d2
theorem Z5o {A A' b:List Nat} {g i:Nat} (h:jD A b g i A' 1) (hi:i+b.length<A.length):0<g:=by
 false_or_by_contra
 rename_i hn;have hv:=h.val;rw [show g=0 by omega,Nat.zero_mul,Nat.add_zero,Nat.one_mul] at hv;have h1:=gQ A' (i+b.length+1) (by rw [h.len];omega);have h2:=gQ A (i+b.length+1) (by omega);have h3:=fB (h.pcs.take (i+b.length+1));rw [om,h.len,Nat.min_eq_left (by omega)] at h3;rw [h.high] at h1;omega
structure jA (W bv t high g r:Nat):Prop where
 ge:W / bv<=g
 eq:g*t+r=high
theorem jA.start {W bv t s high a2:Nat} (h:nH W bv t s high a2):jA W bv t high (high / t) (high%t):=by
 obtain ⟨L,bl,e1,h1,wl,e2,h2⟩:=h.hb;refine ⟨Z4D e1 e2 h.ha2 h2 h.ht rfl,?_⟩;rw [Nat.mul_comm];exact Nat.div_add_mod _ _
theorem jA.less {W bv t s high a2 g r:Nat} (k:nH W bv t s high a2) (h:jA W bv t high g r) (hc:1000000000<=g\/r*1000000000+a2<g*s):jA W bv t high (g-1) (r+t)/\0<g:=by
 obtain ⟨L,bl,e1,h1,wl,e2,h2⟩:=k.hb;obtain ⟨d1,d2⟩:=Z0Q e1 e2 h2 k.hbv k.hW h.ge h.eq hc;refine ⟨⟨d1,?_⟩,d2⟩;have:=h.eq;obtain ⟨g',rfl⟩:∃ g',g=g'+1:=⟨g-1,by omega⟩;rw [Nat.add_sub_cancel];rw [Nat.add_mul,Nat.one_mul] at this;omega
theorem jA.done {W bv t s high a2 g r:Nat} (k:nH W bv t s high a2) (h:jA W bv t high g r) (hg:g<1000000000) (hc:1000000000<=r\/g*s<=r*1000000000+a2):g<=W / bv+1:=by
 obtain ⟨L,bl,e1,h1,wl,e2,h2⟩:=k.hb;exact Z2x e1 e2 h1 k.ht k.hs h.eq hg hc
theorem Z5a (t:Nat):(1000000000:Int) / ((t:Int)+1)=((1000000000 / (t+1):Nat):Int):=by
 rw [Int.natCast_ediv,Int.natCast_add];rfl
theorem Z2k {t:Nat} (ht:t<1000000000):0<1000000000 / (t+1)/\1000000000 / (t+1)<=1000000000 :=
 ⟨Nat.div_pos (by omega) (by omega),Nat.div_le_self _ _⟩
theorem Z0J (p q:List Nat) (u v:Value) (w:World) (hu:dG w u p) (hv:dG w v q) (hp:bJ p) (hq:bJ q) (yR:2<=q.length) (BP:q.length<=p.length) (yn:p.length<=4000000000) :
  Calls prog 287 #[u,v] w fun e w'=>∃ r1 l1 r2 l2,e=.returned (.tuple #[r1,r2])/\Hid (aV w.heap.size w' r1 l1/\bJ l1/\lv l1=lv p / lv q/\l1.length<=p.length+2)/\Hid (aV w.heap.size w' r2 l2/\bJ l2/\lv l2=lv p%lv q/\l2.length<=p.length+2)/\aA w w':=by
 obtain ⟨a,ca,rfl,Ci,AT,vB⟩:=hu.open;obtain ⟨b,cb,rfl,hlb,zc,hcv⟩:=hv.open;obtain ⟨bq,oq,rfl,hbq,Cr⟩:=hcv (by rintro rfl;simp at yR);have HP:=oZ hp;have HQ:=oZ hq;have HU:=oZ hu;have HV:=oZ hv;obtain ⟨i0,hi,pk,hz1,hz2⟩:=info_parts jq;have HI:=oZ hi;have HZ0:=oZ pk;have HZ1:=oZ hz1;have HZ2:=oZ hz2;obtain ⟨t,ht⟩:∃ t,q[q.length-1]?=some t:=⟨_,oc (by omega)⟩;have gt:=Cr _ t ht;have htb:=hq.1.get ht;have B9:0<t:=by have:=hq.2 t ht;omega
 have i1:(1:Int)<=(q.length:Int):=by omega
 have i2:1<=q.length:=by omega
 obtain ⟨f,hf⟩:=pL (1000000000 / (t+1));have sN:0<f:=by rw [hf];exact (Z2k htb).1
 have Fo:f<1000000000:=by
  rw [hf];have:1000000000 / (t+1)<=1000000000 / 2:=Nat.div_le_div_left (by omega) (by omega);omega
 have vU:(1000000000:Int) / ((t:Int)+1)=(f:Int):=by rw [hf];exact Z5a t
 have Ik:((t:Int)+1 == 0)=false:=by rw [beq_eq_false_iff_ne];omega
 have HS1:=oZ (y1_ p f _ w hu hp.1 Fo sN (by omega));clear hi pk hz1 hz2 hu hv vB hcv hp hq Cr ht hf
 go_enter func287,ntmps287
 have HS2:Hid (∀ W,aA w W->Calls prog 340 #[.slice (some ⟨bq,oq,none⟩) q.length cb,.int .u64 f] W fun e w'=>∃ r l,e=.returned r/\Hid (aV W.heap.size w' r l/\bJ l/\lv l=lv q*f/\l.length<=q.length+1)/\aA W w'):=fun W hE=>y1_ q f _ W (HV.ext hE) HQ.1 Fo sN (by omega);go_wp2_with fail;refine HS1.mono ?_;rintro e w1 ⟨r1,l1,rfl,qm,hE1⟩;have HR1:=oZ qm.out;have HB1:=oZ qm.out.1.build;have HE1:=oZ hE1;have z8:w.heap.size<=w1.heap.size:=hE1.size;have HLL:Hid (l1.length<100000000000):=by have:=HR1.2.2.2;unfold Hid;omega
 clear qm hE1 HS1;go_wp2_with (at_builtin;go_must (refine Z0_ _ rfl _ _ 202 rfl w.heap.size 197 (.int .u64 0) 1 8 underlying202 jq rfl (by decide) r1 pcR l1 0 #[.int .u64 0] 197 rfl HB1 rfl rfl ?_ (fun _ _=>rfl) HLL (by decide) z8 ?_))
 all_goals first | (simp [Value.oneCell'];done) | skip
 intro v2 w2 x5 wY hb2 hs2 _;have HE2:Hid (aA w w2):=Below.trans HE1 hb2;have HB2:=oZ x5;have hlt2:=HB2.lt;clear x5 wY hb2 hs2 HB1 HLL;go_wp2_with fail;refine (HS2 _ HE2).mono ?_;rintro e w3 ⟨rb,lb,rfl,CL,pS⟩;have HRB:=oZ CL.out;have HE3:=oZ (aA.trans HE2 pS);have HB3:=oZ (ai.ext HB2 pS);have Ch:lb≠[]:=by
  have h0:=HRB.2.1.zero;intro e;have e1:=h0.2 e;have e2:=HRB.2.2.1;rw [e1] at e2;have tl:0<lv q:=by
   have:=HQ.ge (by rintro rfl;simp at yR);have:=lk (q.length-1);omega
  have:=Nat.mul_pos tl sN;omega
 obtain ⟨gb,cb',Ex,LU,LS,Fe,Fc⟩:=eu HRB.1 (List.length_pos_iff.2 Ch);subst Ex;unfold maxLen at Fc;have HBL:Hid (2<=lb.length/\lb.length<=q.length+1):=by
  refine ⟨?_,HRB.2.2.2⟩;have h1:=bJ.length_le HQ HRB.2.1 (by rw [HRB.out.2.2.1];exact Nat.le_mul_of_pos_right _ sN);omega
 have HSF:Hid (bj w3 v2.ownBlock fun W=>aV w2.heap.size W (.slice (some ⟨gb,0,none⟩) lb.length cb') lb):=by
  refine bj.owns HRB.1 (.inr ?_);intro e;have:=(hlt2 gb e.symm).2;omega
 obtain ⟨us,-,-,zO,-⟩:=id HB3;obtain ⟨g2,c2,hv2,Fh,LW,Cp,Fg⟩:=eu zO (by rw [pG];simp);subst hv2;have hg2w:=(hlt2 g2 rfl).2;have vq:(l1++[0]).length=l1.length+1:=by rw [pG];rfl
 rw [vq] at HB3 HSF Cp |-;have HLL:Hid (p.length<=l1.length/\l1.length<=p.length+1):=⟨bJ.length_le HP HR1.2.1 (by rw [HR1.out.2.2.1];exact Nat.le_mul_of_pos_right _ sN),HR1.2.2.2⟩;obtain ⟨N,hN⟩:=pL (l1.length+1);rw [<- hN] at HB3 HSF Cp |-;have HN:=oZ hN;have Nv:p.length<N:=by have:=HLL.1;omega
 have L2:N<=p.length+2:=by have:=HLL.2;omega
 obtain ⟨n,hn⟩:=pL lb.length;rw [<- hn] at HSF Fe |-;have HNB:=oZ hn;have qx:2<=n:=by have:=HBL.1;omega
 have Io:n<=N:=by have:=HBL.2;omega
 have HO3:=oZ (ai.ownP HB3);clear zO us CL pS HS2 HB2 hlt2 Ch vq hN hn HBL HLL HB3 HE1 HE2;unfold maxLen at Fg;go_wp2_with fail
 go_loopw [7] (fun av wr=>av=.slice (some ⟨g2,0,none⟩) N c2/\Hid (wr=w3)) (fun av _=>0)
 case atStart=>exact ⟨rfl,rfl⟩
 case round =>
  obtain ⟨rfl,HW⟩:=hrel;obtain rfl:=HW.out;have hlt:¬ N<=p.length:=by omega
  obtain ⟨M,hM⟩:=pL (N-n);have Bd:(N:Int)-(n:Int)=(M:Int):=by omega
  have Nw:M<=4000000002:=by omega
  have HM:=oZ hM;clear hM HW;obtain ⟨w3,rfl⟩:∃ w3:World,w3=wr:=⟨_,rfl⟩;go_wp2_with (at_make;refine wpList_make_full _ rfl _ _ 202 rfl w3.heap.size 197 i0 (.int .u64 0) 1 underlying202 HI HZ0 HZ1 _ _ _ _ M rfl rfl rfl rfl ?c1 ?c2 ?c3 ?_)
  case c1=>rw [HZ2.out];omega
  case c2=>unfold maxLen;omega
  case c3=>exact oz _
  intro w4 hown pQ;have hE4:=ic pQ;have HOO:=oZ (aV.made hown);have HOA:=oZ (HO3.ext hE4);have HE4:=oZ (aA.trans HE3 hE4);have yu:w3.heap.size<w4.heap.size:=(hown.lt w3.heap.size rfl).2;have tS:Hid (∀ w',aH (fun k=>k=g2\/k=w3.heap.size) w4 w'->aV w2.heap.size w' (.slice (some ⟨gb,0,none⟩) n cb') lb):=by
   intro w' hg;have h:=(HRB.1.ext hE4);rw [<- HNB.out] at h;exact h.grownS hg (by rintro (h1 | h1) <;> omega)
  have HD0:Hid (fE N n (lv lb) (lv p*f) M (l1++[0]) (List.replicate M 0)):=by
   unfold Hid;rw [HM.out];refine fE.start (HR1.2.1.1.append (aP.cons (by omega) aP.nil)) (by rw [pG,HN.out];rfl) Io (by omega) ?_ ?_ ?_;·rw [HN.out];simp
   ·rw [HNB.out];exact HRB.2.1.ge (by rintro e;rw [e] at HNB;have:=HNB.out;simp at this;omega)
   ·rw [jM,HR1.out.2.2.1,fj,eJ];simp
  clear hown pQ hE4 HO3 HSF;have LV:w.heap.size<=g2:=Fh;have AG:n<=N:=Io;go_wp2_with fail
  go_loopw [11] (fun i wr=>∃ (y:Int) (A O:List Nat),i=.int .i64 y/\y<M/\-2<y/\Hid (aH (fun k=>k=g2\/k=w3.heap.size) w4 wr)/\Hid (aV w.heap.size wr (.slice (some ⟨g2,0,none⟩) N c2) A)/\Hid (aV w3.heap.size wr (.slice (some ⟨w3.heap.size,0,none⟩) M M) O)/\Hid (∃ k:Nat,y+1=k/\fE N n (lv lb) (lv p*f) k A O)) (fun i _=>(intOf i+1).toNat)
  case atStart=>exact ⟨_,_,_,rfl,by omega,by omega,aH.refl _ _,HOA,HOO,⟨M,by omega,HD0⟩⟩
  case round =>
   obtain ⟨y,A,O,rfl,wB,ry,HG,HA,HO,HD⟩:=hrel;obtain ⟨wo,rfl⟩:∃ wo:World,wo=wr:=⟨_,rfl⟩;clear HD0 HOO HOA;by_cases qW:0<=y
   ·obtain ⟨j,rfl⟩:∃ j:Nat,y=j:=⟨y.toNat,by omega⟩;have qS:Hid (fE N n (lv lb) (lv p*f) (j+1) A O):=by
     obtain ⟨k,e,h⟩:=HD.out;have:k=j+1:=(by omega);rw [this] at h;exact h
    have xZ:j+n<N:=(by have:=HM.out;omega);obtain ⟨e0,Fq⟩:=pL (j+n);obtain ⟨e1,Fp⟩:=pL (j+n-1);obtain ⟨e2,D3⟩:=pL (j+n-2);obtain ⟨b1,hb1⟩:=pL (n-1);obtain ⟨b2,hb2⟩:=pL (n-2);obtain ⟨a0,D5⟩:∃ a0,A[e0]?=some a0:=⟨_,oc (by rw [qS.out.la];omega)⟩;obtain ⟨a1,wK⟩:∃ a1,A[e1]?=some a1:=⟨_,oc (by rw [qS.out.la];omega)⟩;obtain ⟨a2,ha2⟩:∃ a2,A[e2]?=some a2:=⟨_,oc (by rw [qS.out.la];omega)⟩;obtain ⟨tt,zy⟩:∃ tt,lb[b1]?=some tt:=⟨_,oc (by have:=HNB.out;omega)⟩;obtain ⟨ss,tV⟩:∃ ss,lb[b2]?=some ss:=⟨_,oc (by have:=HNB.out;omega)⟩;obtain ⟨z,hz⟩:∃ z,O[j]?=some z:=⟨_,oc (by rw [qS.out.lo];omega)⟩;have HKN:Hid (nH (lv (A.drop j)) (lv lb) tt ss (a0*1000000000+a1) a2):=qS.knuth (m:=b2) HRB.2.1 HNB.symm (by omega) rfl xZ (by rw [show b2+1=b1 by omega];exact zy) tV (by rw [<- Fq];exact D5) (by rw [<- Fp];exact wK) (by rw [<- D3];exact ha2);have c0:=(HA.get D5).1;have c1:=(HA.get wK).1;have c2':=(HA.get ha2).1;have hbq:=tS _ HG;have ct:=(hbq.get zy).1;have cs:=(hbq.get tV).1;have D0:(j:Int)+(n:Int)=(e0:Int):=(by omega);have AO:(e0:Int)-1=(e1:Int):=(by omega);have rD:(e0:Int)-2=(e2:Int):=(by omega);have Dz:(n:Int)-1=(b1:Int):=(by omega);have Nc:(n:Int)-2=(b2:Int):=(by omega);have qt:e0<N:=(by omega);have hk1:e1<N:=(by omega);have hk2:e2<N:=(by omega);have hk3:b1<n:=(by omega);have NY:b2<n:=(by omega);have hp0:=qS.pa.get D5;have hp1:=qS.pa.get wK;have hp2:=qS.pa.get ha2;have hpt:=HRB.2.1.1.get zy;have hps:=HRB.2.1.1.get tV;have htt0:=HKN.ht;obtain ⟨hg,I1⟩:=pL (a0*1000000000+a1);rw [<- I1] at HKN;have Nd:(a0:Int)*1000000000+(a1:Int)=(hg:Int):=(by omega);have Nf:hg<1000000000000000000:=(by omega);have HGS:=oZ (jA.start HKN);obtain ⟨gg,sh⟩:=pL (hg / tt);obtain ⟨rr,re⟩:=pL (hg%tt);rw [<- sh,<- re] at HGS;have Cn:(hg:Int) / (tt:Int)=(gg:Int):=(by rw [sh];exact (Int.natCast_ediv _ _).symm);have r6:(hg:Int)%(tt:Int)=(rr:Int):=(by rw [re];exact (Int.natCast_emod _ _).symm);have Co:gg<=hg:=(by rw [sh];exact Nat.div_le_self _ _);have Eu:rr<tt:=(by rw [re];exact Nat.mod_lt _ htt0);have NG:((tt:Int) == 0)=false:=(by rw [beq_eq_false_iff_ne];omega);have Kn:¬ (tt:Int)=0:=(by omega);have HZ:=oZ hz;have N6:Hid (e0=j+n/\e2=j+n-2/\b2=n-2):=⟨Fq,D3,hb2⟩;clear D5 wK ha2 zy tV hbq Fq Fp D3 hb1 hb2 I1 sh re hz;go_wp2_with fail
    go_quiet (fail)
    go_wp2_with fail
    go_quiet (fail)
    go_wp2_with fail;have HGB:Hid (∀ W,aH (fun k=>k=g2\/k=w3.heap.size) w4 W->dG W (.slice (some ⟨gb,0,none⟩) n cb') lb):=by
     intro W hW;have:=(tS W hW).at;exact this
    go_loopw [13,14] (fun gv rv wr=>∃ g r:Nat,gv=.int .u64 g/\rv=.int .u64 r/\g<=hg/\r<=hg/\Hid (jA (lv (A.drop j)) (lv lb) tt hg g r)/\Hid (aA wo wr)) (fun gv _ _=>(intOf gv).toNat)
    case atStart=>exact ⟨gg,rr,rfl,by rw [r6],Co,by have:=HGS.eq;omega,HGS,by first | exact aA.drewN _ _ | exact aA.draws (aA.drewN _ _) _⟩
    case round =>
     obtain ⟨g,r,rfl,rfl,Ng,NL,Hr,HEq⟩:=hrel;obtain ⟨wq,rfl⟩:∃ wq:World,wq=wr:=⟨_,rfl⟩;have d2:=HEq.cell c2';have dt:=HEq.cell ct;have ds:=HEq.cell cs;clear HGS Cn r6 Co Eu c0 c1 c2' ct cs;obtain ⟨x1,qX⟩:=pL (g*ss);have B4:(g:Int)*(ss:Int)=(x1:Int):=(by rw [qX];exact (Int.natCast_mul _ _).symm);obtain ⟨x2,tT⟩:=pL (r*1000000000+a2);have Bz:(r:Int)*1000000000+(a2:Int)=(x2:Int):=(by omega);have HX1:Hid (g<1000000000->x1<1000000000000000000):=by
      intro h;have:=Nat.mul_le_mul (show g<=999999999 by omega) (show ss<=999999999 by omega);omega
     by_cases yu:1000000000<=g\/(r<1000000000/\x2<x1)
     ·have HL:=oZ (Hr.less HKN (by rw [<- qX,<- tT];omega));have BY:0<g:=HL.2;obtain ⟨g',vt⟩:=pL (g-1);have Fi:(g:Int)-1=(g':Int):=(by omega);have Fj:g'<g:=(by omega);have HL2:Hid (jA (lv (A.drop j)) (lv lb) tt hg g' (r+tt)):=(by unfold Hid;rw [vt];exact HL.1);have hrt:r+tt<=hg:=by
       have:=HL2.eq;omega
      clear HL vt;have vM:1000000000<=g\/(g<1000000000/\r<1000000000/\x2<x1):=(by omega);clear yu qX tT;rcases vM with hb1 | ⟨hb1,hb2,px⟩
      ·have q1:decide ((1000000000:Int)<=(g:Int))=true:=pE (by omega);have q2:decide (1000000000<=g)=true:=pE hb1;clear B4 Bz;go_wp2_with fail
       go_quiet (fail)
       go_wp2_with fail;go_roundw
       case rel=>exact ⟨g',r+tt,rfl,by first | rfl | go_num,by omega,hrt,HL2,aA.draws HEq _⟩
       case measure=>simp [intOf];omega
      ·have q1:decide ((1000000000:Int)<=(g:Int))=false:=pD (by omega);have q2:decide (1000000000<=g)=false:=pD (by omega);have q3:decide ((r:Int)<(1000000000:Int))=true:=pE (by omega);have q4:decide (r<1000000000)=true:=pE hb2;have q5:decide (x2<x1)=true:=pE px;have hx1b:=HX1 hb1;go_wp2_with fail
       go_quiet (fail)
       go_wp2_with fail;go_roundw
       case rel=>exact ⟨g',r+tt,rfl,by first | rfl | go_num,by omega,hrt,HL2,aA.draws HEq _⟩
       case measure=>simp [intOf];omega
     ·have vM:(g<1000000000/\1000000000<=r)\/(g<1000000000/\r<1000000000/\x1<=x2):=(by omega);have qR:g<1000000000:=(by omega);have HGE:=oZ Hr.ge;have HLE:Hid (g<=lv (A.drop j) / lv lb+1):=Hr.done HKN qR (by rw [<- qX,<- tT];omega);have hx1b:=HX1 qR;have hjl:j+lb.length<A.length:=(by rw [qS.out.la,<- HNB.out];exact xZ);have HTK:Hid (∀ W,aA wo W->Calls prog 288 #[.slice (some ⟨g2,0,none⟩) N c2,.slice (some ⟨gb,0,none⟩) n cb',.int .u64 g,.int .i64 j] W fun e w'=>∃ L b,e=.returned (.bool (decide (0<b)))/\aV w.heap.size w' (.slice (some ⟨g2,0,none⟩) N c2) L/\jD A lb g j L b/\aH (·=g2) W w'):=by
       intro W hW;have:=Z0m w.heap.size A lb g j g2 c2 (.slice (some ⟨gb,0,none⟩) n cb') W (by rw [qS.out.la];exact HA.ext hW) (fun w' hg=>HGB w' ((HG.trans (hW.grownS _)).trans (hg.weak fun k _ hk=>.inl hk))) qS.pa HRB.2.1.1 qR hjl (by rw [qS.out.la];omega);rw [qS.out.la] at this;exact this
      have HBK:Hid (∀ W A',A'.length=N->aP A'->aV w.heap.size W (.slice (some ⟨g2,0,none⟩) N c2) A'->aH (fun k=>k=g2\/k=w3.heap.size) w4 W->Calls prog 157 #[.slice (some ⟨g2,0,none⟩) N c2,.slice (some ⟨gb,0,none⟩) n cb',.int .i64 j] W fun e w'=>∃ L c,e=.returned (.tuple #[])/\aV w.heap.size w' (.slice (some ⟨g2,0,none⟩) N c2) L/\ku A' lb j L c/\aH (·=g2) W w'):=by
       intro W A' hl sD ho hW;have:=c2_ w.heap.size A' lb j g2 c2 (.slice (some ⟨gb,0,none⟩) n cb') W (by rw [hl];exact ho) (fun w' hg=>HGB w' (hW.trans (hg.weak fun k _ hk=>.inl hk))) sD HRB.2.1.1 (by rw [hl,<- HNB.out];exact xZ) (by rw [hl];omega);rw [hl] at this;exact this
      clear yu qX tT hjl;rcases vM with ⟨hb1,hb2⟩ | ⟨hb1,hb2,px⟩
      case' inl =>
       have q1:decide ((1000000000:Int)<=(g:Int))=false:=pD (by omega);have q2:decide (1000000000<=g)=false:=pD (by omega);have q3:decide ((r:Int)<(1000000000:Int))=false:=pD (by omega);have q4:decide (r<1000000000)=false:=pD (by omega);have q5:True:=trivial
      case' inr =>
       have q1:decide ((1000000000:Int)<=(g:Int))=false:=pD (by omega);have q2:decide (1000000000<=g)=false:=pD (by omega);have q3:decide ((r:Int)<(1000000000:Int))=true:=pE (by omega);have q4:decide (r<1000000000)=true:=pE (by omega);have q5:decide (x2<x1)=false:=pD (by omega)
      all_goals
       go_wp2_with fail
       go_quiet (fail)
       go_wp2_with fail;refine (HTK _ (aA.draws HEq _)).mono ?_;rintro e w6 ⟨A',bo,rfl,Ii,hT,sU⟩;have HT:=oZ hT;have HG6:=oZ ((HG.trans ((aA.draws HEq _).grownS _)).trans (sU.weak fun k _ hk=>Or.inl hk));have Cb:¬ w3.heap.size=g2:=by omega
       have xO:¬ g2=w3.heap.size:=(by omega);have HO6:=oZ ((HO.ext (aA.draws HEq _)).grownS sU Cb);have HA6:=oZ Ii;have HBO:Hid (bo<=1):=hT.le;clear Ii hT sU HTK d2 dt ds q1 q2 q3 q4 q5 B4 Bz
       match bo,HBO with
       | 0,_ =>
        have HD6:=oZ (qS.no HT HNB.symm rfl xZ HGE qR);obtain ⟨cz,fz⟩:=HO6.get HZ;have HO7:=oZ (HO6.set j g);have HA7:=oZ (HA6.grownS ((aH.refl (·=w3.heap.size) w6).store rfl j (.int .u64 g)) xO);have HG7:=oZ (HG6.store (.inr rfl) j (.int .u64 g));have HD7:Hid (∃ k:Nat,((j:Int)-1)+1=k/\fE N n (lv lb) (lv p*f) k A' (O.set j g)):=⟨j,by omega,HD6⟩;clear HBK HD6 HO6 HA6 HG6 HBO;go_wp2_with fail;go_roundw
        case rel=>exact ⟨_,A',O.set j g,rfl,by omega,by omega,HG7,HA7,HO7,HD7⟩
        case measure=>simp [intOf]
       | 1,_ =>
        have BY:0<g:=Z5o HT (by rw [qS.out.la,<- HNB.out];exact xZ);obtain ⟨g',vt⟩:=pL (g-1);have Fi:(g:Int)-1=(g':Int):=(by omega);have Fj:g'<1000000000:=(by omega);have HGP:=oZ vt;have HBB:=oZ (HBK _ A' (HT.len.trans qS.la) HT.pcs HA6 HG6);clear vt HBK HBO;go_wp2_with fail;refine HBB.mono ?_;rintro e w7 ⟨A'',co,rfl,CX,hB,BX⟩;have HD6:=oZ (qS.back HT hB HNB.symm HRB.2.1.1 rfl xZ HLE qR).2;rw [<- HGP.out] at HD6;have HG7:=oZ (HG6.trans (BX.weak fun k _ hk=>Or.inl hk));have HO7:=oZ (HO6.grownS BX Cb);have HA7:=oZ CX;clear hB CX BX HBB HO6 HA6 HG6;obtain ⟨cz,fz⟩:=HO7.get HZ;have HO8:=oZ (HO7.set j g');have HA8:=oZ (HA7.grownS ((aH.refl (·=w3.heap.size) w7).store rfl j (.int .u64 g')) xO);have HG8:=oZ (HG7.store (.inr rfl) j (.int .u64 g'));have HD7:Hid (∃ k:Nat,((j:Int)-1)+1=k/\fE N n (lv lb) (lv p*f) k A'' (O.set j g')):=⟨j,by omega,HD6⟩;clear HD6 HO7 HA7 HG7;go_wp2_with fail;go_roundw
        case rel=>exact ⟨_,A'',O.set j g',rfl,by omega,by omega,HG8,HA8,HO8,HD7⟩
        case measure=>simp [intOf]
       | bo+2,h=>exact absurd h.out (by omega)
   ·have HDZ:Hid (fE N n (lv lb) (lv p*f) 0 A O):=by
     obtain ⟨k,e,h⟩:=HD.out;have:k=0:=(by omega);rw [this] at h;exact h
    have HTA:=oZ (ks w.heap.size A _ wo HA HDZ.pa);have HEW:Hid (aA w wo):=Below.trans HE4 (HG.belowE (B:=w.heap.size) (by rintro k (hk | hk) <;> omega) HE4.size);have hv:=HDZ.val;have hl:=HDZ.lt;rw [List.drop_zero,mq,Nat.one_mul] at hv;rw [List.drop_zero] at hl;have tl:0<lv q:=by
     have:=HQ.ge (by rintro rfl;simp at yR);have:=lk (q.length-1);omega
    have HEND:=oZ (Z63 rfl HRB.2.2.1 tl sN hv hl);clear hv hl;go_wp2_with fail;refine HTA.mono ?_;rintro e w5 ⟨ra,la,rfl,Ib,kk,rfl⟩;have HRA:=oZ Ib.out;have HSM:=oZ (k1_ la f ra _ HRA.1.at HRA.2.1.1 Fo sN (by have:=HRA.2.2.2;rw [HDZ.out.la] at this;omega));clear Ib HTA;go_wp2_with fail;refine HSM.mono ?_;rintro e w6 ⟨rs,ls,rfl,vR,pR⟩;have HRS:=oZ vR.out;have HE6:=oZ (aA.trans (aA.draws HEW kk) pR);have HO6:=oZ (HO.ext (aA.trans (aA.drewN wo kk) pR));have HTO:=oZ (ks w3.heap.size O _ w6 HO6 HDZ.po);clear vR HSM;go_wp2_with fail;refine HTO.mono ?_;rintro e w7 ⟨rt,lt',rfl,hrt,k7,rfl⟩;have HRT:=oZ hrt.out;clear hrt HTO;go_wp2_with fail;go_ret2;refine ⟨rt,lt',rs,ls,rfl,⟨HRT.1.base (by omega),HRT.2.1,HRT.2.2.1.trans HEND.1,?_⟩,⟨((HRS.1.base ?_).ext (aA.drewN _ _)),HRS.2.1,?_,?_⟩,aA.draws HE6 _⟩;·have:=HRT.2.2.2;rw [HDZ.out.lo] at this;omega
    ·have:=HEW.size;simpa using this
    ·rw [HRS.out.2.2.1,HRA.out.2.2.1,HEND.out.2,Nat.mul_div_cancel _ sN]
    ·have:=HRS.2.2.2;have:=HRA.2.2.2;rw [HDZ.out.la] at this;omega
theorem R5_ (k:Nat):(Builtin.zeroCells (Value.int .u64 0).cells k).toList=(List.replicate k (0:Nat)).map pcV:=by
 have e:(Value.int .u64 0).cells=#[Value.int .u64 0]:=rfl;rw [e];apply List.ext_getElem?;intro i;simp only [Builtin.zeroCells,oh,List.getElem?_replicate];by_cases h:i<k <;> simp [h,pcV,Nat.mod_one]
theorem I9_ {B:Nat} {w:World} (l:List Nat) (k old:Nat) (hb:B<=w.heap.size) (hm:l.length+k<=maxLen) (row:Option Nat) :
  aV B (w.drew.alloc (.cells ((l.map pcV).toArray++Builtin.zeroCells (Value.int .u64 0).cells k++Builtin.zeroCells (Value.int .u64 0).cells (grownCap w (l.length+k) old 197-(l.length+k))) 197))
   (.slice (some ⟨w.heap.size,0,none⟩) (l.length+k) (grownCap w (l.length+k) old 197)) (l++List.replicate k 0) /\
  w.grownBy (w.drew.alloc (.cells ((l.map pcV).toArray++Builtin.zeroCells (Value.int .u64 0).cells k++Builtin.zeroCells (Value.int .u64 0).cells (grownCap w (l.length+k) old 197-(l.length+k))) 197)) row:=by
 have hge:=grownCap_ge w (l.length+k) old 197;have hcm:=grownCap_le_maxLen w (l.length+k) old 197 hm;refine ⟨⟨by simp,.inr ⟨w.heap.size,_,_,by simp,hb,heap_alloc_new w.drew _,by simpa using hge,hcm,?_,?_⟩⟩,((aA.drew w).trans (aA.alloc _ _)).grown row⟩
 ·simp only [Array.size_append,List.size_toArray,size_zeroCells,List.length_map];show l.length+k*1+_*1=_*1;omega
 ·simp only [Array.toList_append,R5_];have:(l++List.replicate k 0).length*1=(l.map pcV++(List.replicate k 0).map pcV).length:=by simp
  rw [this,List.map_append];exact List.take_left
theorem Z5_ {P:Program} (w:World) (B:Nat) (t tn ty:TypeId) (i:TypeInfo) (kn:IntKind) (ht:P.underlying t=some (.slice 197)) (B8:P.underlying tn=some (.int kn)) (hi:P.info? 197=some i) (hz:i.zero=some (.int .u64 0)) (hs:i.size=1) (qK:i.bytes=8)
  (v:Value) (l:List Nat) (h:aV B w v l) (k:Nat) (hl:l.length<=100000000000) (hk:k<=100000000000) (hb:B<=w.heap.size) :
  ∃ v' w',(Builtin.append_ #[t,tn] ty #[v,.int .i64 k]).run P w=.ok v' w'/\aV B w' v' (l++List.replicate k 0)/\w.grownBy w' v.ownBlock/\(v'.ownBlock=v.ownBlock\/v'.ownBlock=some w.heap.size):=by
 have hw:IntKind.i64.wrap (k:Int)=k:=by rw [IntKind.wrap_i64];omega
 have hneg:¬ ((k:Int)<0):=by omega
 have II:IntKind.i64.wrap 0=0:=by rw [IntKind.wrap_i64];rfl
 have Gu:¬ (281474976710656<(k:Int)*8):=by omega
 rcases h.2 with ⟨rfl,hn⟩ | ⟨g,cap,cur,rfl,hbg,hg,NQ,hcm,vM,zM⟩
 ·have hx:l=[]:=List.length_eq_zero_iff.1 hn;subst hx;by_cases qt:k=0
  ·subst qt;refine ⟨.slice none 0 0,w,?_,aV.nil B w,World.grownBy.refl _ _,.inl rfl⟩;simp [Builtin.append_,run_underlying ht,run_underlying B8,sizeOf,typeInfo,hi,asInt,asIntOf,II,hs,qK]
  ·have hr:=Lib.run_append_nil_zeros (P:=P) w t tn ty 197 i (.int .u64 0) .i64 kn ht B8 hi hz k (by omega) (by omega) (by omega) (by rw [qK];omega);have hgr:=I9_ (B:=B) (w:=w) [] k 0 hb (by simp [maxLen];omega) (Value.ownBlock (.slice none 0 0));simp only [List.length_nil,Nat.zero_add,List.map_nil,List.nil_append,Array.empty_append] at hgr;exact ⟨_,_,hr,hgr.1,hgr.2,.inr rfl⟩
 ·rw [Nat.mul_one] at vM zM;by_cases xM:l.length+k<=cap
  ·have hst:=run_storeCells_at P g l.length 197 ((List.replicate k (0:Nat)).map pcV) 0 cur w hg (by simp;omega) (by intro u hu;simp [pcV] at hu;rw [hu.2];rfl);simp only [Nat.add_zero] at hst;have hr:(Builtin.append_ #[t,tn] ty #[.slice (some ⟨g,0,none⟩) l.length cap,.int .i64 k]).run P w=.ok (.slice (some ⟨g,0,none⟩) (l.length+k) cap) (w.setRow g (cur.toList.take l.length++(List.replicate k (0:Nat)).map pcV++cur.toList.drop (l.length+((List.replicate k (0:Nat)).map pcV).length)).toArray):=by
    by_cases qt:k=0
    ·subst qt;simp [Builtin.append_,run_underlying ht,run_underlying B8,sizeOf,typeInfo,hi,asInt,asIntOf,II,hs,qK,xM,Addr.add_lit];simp at hst;have:l.length<=cap:=(by omega);simp [hst,this]
    ·have hzz:(Builtin.zeroCells (Value.int .u64 0).cells k).toList=(List.replicate k (0:Nat)).map pcV:=R5_ k;simp [Builtin.append_,run_underlying ht,run_underlying B8,sizeOf,typeInfo,zeroValue,hi,hz,asInt,asIntOf,hw,hs,qK,xM,Addr.add_lit,hneg,Gu,qt];rw [hzz];simp at hst;simp [hst]
   refine ⟨_,_,hr,⟨by simp,.inr ⟨g,cap,_,by simp,hbg,setRow_heap w g cur _ 197 _ hg,by simpa using xM,hcm,?_,?_⟩⟩,⟨rfl,rfl,rfl,by simp,fun k hk _=>setRow_other w g k _ (fun e=>by simp_all [Value.ownBlock])⟩,.inl rfl⟩
   ·simp only [List.size_toArray,pG,om,List.length_drop,Array.length_toList,List.length_map,List.length_replicate];omega
   ·rw [zM,Nat.mul_one];have:(l++List.replicate k 0).length=(l.map pcV++(List.replicate k 0).map pcV).length:=(by simp);rw [this,List.map_append];exact List.take_left
  ·have hold:(Builtin.firstCells i.size l.length (.slice (some ⟨g,0,none⟩) l.length cap)).run P w.drew=.ok (l.map pcV).toArray w.drew:=by
    refine run_firstCells_some (P:=P) w.drew i.size l.length ⟨g,0,none⟩ l.length cap (l.map pcV) (by simp [hs]) ?_;intro j u hu;have:=World.ownsRow.cells h (g:=g) rfl j u hu;simpa using this
   have hr:=Lib.run_append_grow_zeros (P:=P) w t tn ty 197 i (.int .u64 0) .i64 kn ht B8 hi hz (some ⟨g,0,none⟩) l.length cap (l.map pcV) hold k (by omega) (by omega) (by omega) (by omega) (by rw [qK];omega) (growslice_fits (by omega) (by rw [qK];omega));have hgr:=I9_ (B:=B) (w:=w) l k cap hb (by simp [maxLen];omega) (Value.ownBlock (.slice (some ⟨g,0,none⟩) l.length cap));exact ⟨_,_,hr,hgr.1,hgr.2,.inr rfl⟩
theorem S2_ (u:Nat):1<=(aE u).size:=by rw [fC];exact Lib.nDigits_pos u
theorem kZ (u k:Nat) (h:u<10^k) (hk:1<=k):(aE u).size<=k:=by rw [fC];exact V8_ u k h hk
theorem kd (u:Nat):((aE u).toList == [48])=decide (u=0):=by
 rw [jP,show ([48]:List UInt8)=Lib.decDigits 0 by rw [Lib.decDigits_one (by omega)];rfl,T4_]
theorem nZ (u v:Nat) (w:World) (hu:(aE u).size<=10000000000) (hv:(aE v).size<=10000000000) :
  pJ 65 #[.string (aE u),.string (aE v)] w (.int .i64 (cR u v)):=by
 have s1:=fC u;have s2:=fC v;by_cases hl:(aE u).size=(aE v).size
 ·have tr:(((aE u).size:Int) != ((aE v).size:Int))=false:=by simp [hl]
  have q1:Op.bytesLess (aE u).toList (aE v).toList=decide (u<v):=by rw [jP,jP];exact a5_ u v (by omega)
  have q2:Op.bytesLess (aE v).toList (aE u).toList=decide (v<u):=by rw [jP,jP];exact a5_ v u (by omega)
  have q3:((aE u).toList == (aE v).toList)=decide (u=v):=by rw [jP,jP];exact T4_ u v
  have HC:Hid (cR u v=if u<v then -1 else if u=v then 0 else 1):=rfl;clear s1 s2 hl;rcases Nat.lt_trichotomy u v with h | h | h
  ·rw [pE h] at q1;rw [if_pos h] at HC;rw [HC.out];clear q2 q3 HC h
   go_enter func65,ntmps65
   go_wp2_with fail;go_ret;exact ⟨rfl,rfl⟩
  ·have hn:¬ u<v:=(by omega);rw [pD hn] at q1;rw [pE h] at q3;rw [if_neg hn,if_pos h] at HC;rw [HC.out];clear q2 HC h hn
   go_enter func65,ntmps65
   go_wp2_with fail;go_ret;exact ⟨rfl,rfl⟩
  ·have hn:¬ u<v:=(by omega);have qx:¬ u=v:=(by omega);rw [pD hn] at q1;rw [pD qx] at q3;rw [if_neg hn,if_neg qx] at HC;rw [HC.out];clear q2 HC h hn qx
   go_enter func65,ntmps65
   go_wp2_with fail;go_ret;exact ⟨rfl,rfl⟩
 ·have tr:(((aE u).size:Int) != ((aE v).size:Int))=true:=by simp;omega
  rcases Nat.lt_or_gt_of_ne hl with h | h
  ·have HC:Hid (cR u v=-1):=by
    unfold Hid cR;rw [if_pos (P3_ (by omega))]
   rw [HC.out];clear HC hl
   go_enter func65,ntmps65
   go_wp2_with fail;go_ret;exact ⟨(show Ending.returned (.int .i64 (min 1 (max (-1) ((Lib.nDigits u:Int)-(Lib.nDigits v:Int)))))=_ from Z3y (by omega)),rfl⟩
  ·have HC:Hid (cR u v=1):=by
    have:=P3_ (u:=v) (v:=u) (by omega);unfold Hid cR;rw [if_neg (by omega),if_neg (by omega)]
   rw [HC.out];clear HC hl
   go_enter func65,ntmps65
   go_wp2_with fail;go_ret;exact ⟨(show Ending.returned (.int .i64 (min 1 (max (-1) ((Lib.nDigits u:Int)-(Lib.nDigits v:Int)))))=_ from Z3y (by omega)),rfl⟩
theorem W1_ {w:World} {ops:Array Oper} {rest:List Oper} {o:Oper} {a:Act} {Q:Exit->Act->World->Prop} (qj:o.guard=none)
  (s x:Operand) (ho:o.op=Op.call { callee:=Callee.builtin Builtin.append,args:=#[s,x],argTypes:=#[202,202] }) (B:Nat)
  (v:Value) (l:List Nat) (y:Nat) (C:Array Value) (hs:a.eval s=v) (hO:aV B w v l)
  (hx:a.eval x=.slice (some ⟨w.heap.size,0,none⟩) 1 1) (hC:C=#[pcV y]) (hlen:l.length<100000000000) (pX:B<=w.heap.size)
  (h:∀ v' w',aV B w' v' (l++[y])->w.grownBy w' v.ownBlock->(v'.ownBlock=v.ownBlock\/v'.ownBlock=some (w.heap.size+1))->wpList prog ops Q rest (a.put o.dst v') w') :
  wpList prog ops Q (o::rest) a (w.alloc (.cells C 197)):=by
 subst hC;obtain ⟨i,hi,hz,pZ,qK⟩:=info_parts jq;have py:∀ j,(⟨w.heap.size,0,none⟩:Addr).add j=⟨w.heap.size,j,none⟩:=by intro j;unfold Addr.add;split <;> simp_all
 refine wpList_plain qj fun K hK=>?_;refine iR (w.alloc (.cells #[pcV y] 197)) s x 202 ho B 197 i (.int .u64 0) 1 8 underlying202 hi hz pZ qK rfl (by decide) v l.length (l.map pcV) hs (World.ownsRow.alloc hO _) ⟨w.heap.size,0,none⟩ 1 1 [pcV y] hx rfl ?_ (by intro u hu;simp at hu;rw [hu];rfl) ?_ ?_ ?_ ?_
 ·intro j q hq;rw [py,World.cell?_alloc_new];simpa using hq
 ·unfold maxLen;omega
 ·omega
 ·simp;omega
 ·intro v' w' hown pQ _ qb;refine hK _ _ (h v' w' ?_ (gO (World.grownBy_alloc w _ v.ownBlock) pQ) ?_);·unfold aV;rw [pG,List.map_append];exact hown
  ·simpa using qb
theorem aV.kept {B:Nat} {w w':World} {v:Value} {l:List Nat} {r:Option Nat} (h:aV B w v l) (hg:w.grownBy w' r) (hne:v.ownBlock=none\/v.ownBlock≠r):aV B w' v l:=World.ownsRow.kept h hg hne
theorem aV.lt {B:Nat} {w:World} {v:Value} {l:List Nat} (h:aV B w v l):∀ b,v.ownBlock=some b->B<=b/\b<w.heap.size:=World.ownsRow.lt h
theorem Z31 (l:List Nat) (k:Nat):lv (l++List.replicate k 0)=lv l:=by rw [jM,u1_];simp
theorem aP.pad {l:List Nat} (h:aP l) (k:Nat):aP (l++List.replicate k 0):=h.append (aP.zeros k)
theorem Z4c {X Y L:List Nat} {c:Nat} (hB:ku X Y 0 L c) (hX:X.length=Y.length+1) (hx:lv X<pB Y.length) (hy:aP Y):lv L=lv X+lv Y:=by
 have hv:=hB.val;rw [mq,Nat.one_mul,Nat.zero_add,fD] at hv;have h2:=fB hy;have hp:=lk Y.length;cases c with
 | zero=>omega
 | succ c =>
  exfalso;rw [Nat.succ_mul] at hv;omega
theorem Z3X {X Y L:List Nat} {b:Nat} (hT:jD X Y 1 0 L b) (hX:X.length=Y.length+1) (hle:lv Y<=lv X):lv L=lv X-lv Y/\b=0:=by
 have hv:=hT.val;rw [mq,Nat.one_mul,Nat.one_mul,Nat.zero_add] at hv;have h2:=fB hT.pcs;rw [hT.len,hX] at h2;have hb:=hT.le
 match b with
 | 0=>omega
 | 1=>omega
 | b+2=>omega
theorem jH (u:Nat) (w:World) (hs:(aE u).size<=6000000000) :
  Calls prog 156 #[.string (aE u)] w fun e w'=>∃ v l,e=.returned v/\Hid (aV w.heap.size w' v l/\bJ l/\lv l=u/\l.length<=(aE u).size)/\aA w w':=by
 have:=Z60 (aE u) w (by rw [jw];exact mV u) (by omega);rw [jw,jk] at this;exact this
theorem il {u:Nat} (h:(aE u).size<=18):u<1000000000000000000:=by
 rw [fC] at h;have h1:=Lib.lt_pow_nDigits u;have h2:10^Lib.nDigits u<=10^18:=Nat.pow_le_pow_right (by omega) h;rw [show (10:Nat)^18=1000000000000000000 by decide] at h2;omega
theorem C4_ (u v:Nat) (w:World) (hu:(aE u).size<=3000000000) (hv:(aE v).size<=3000000000) (ht:ag w) :
  pI 162 #[.string (aE u),.string (aE v)] w (.string (aE (u*v))):=by
 have HT:=oZ ht;clear ht;by_cases hs:(aE u).size+(aE v).size<=18
 ·have hp1:=S2_ u;have hp2:=S2_ v;have HB:=oZ (M9_ u v w (by omega) (by omega));have hm:u*v<18446744073709551616:=by
   have h:=oG u v;have:=il (u:=u*v) (by omega);omega
  obtain ⟨m,hmm⟩:=pK (u*v);rw [hmm] at hm |-;have yl:(u:Int)*(v:Int)=(m:Int):=by rw [<- hmm];exact (Int.natCast_mul _ _).symm
  have HO:Hid (∀ W,aA w W->pI 155 #[.int .u64 m] W (.string (aE m))):=fun W hW=>nd m W hm (HT.ext hW);clear hmm hp1 hp2
  go_enter func162,ntmps162
  go_wp2_with fail;refine p_ HB ?_;intro w1 HE1;clear HB;go_wp2_with fail;refine q_ (HO _ HE1) (aA.trans HE1) ?_;intro w2 HE2;clear HO;go_wp2_with fail;go_ret;exact ⟨rfl,HE2⟩
 ·have HC1:=oZ (jH u w (by omega));have HC2:Hid (∀ W,Calls prog 156 #[.string (aE v)] W fun e w'=>∃ r l,e=.returned r/\Hid (aV W.heap.size w' r l/\bJ l/\lv l=v/\l.length<=(aE v).size)/\aA W w'):=fun W=>jH v W (by omega)
  go_enter func162,ntmps162
  go_wp2_with fail;refine HC1.mono ?_;rintro e w1 ⟨v1,l1,rfl,h1,hE1⟩;have HL1:=oZ h1.out;have HE1:=oZ hE1;clear h1 hE1 HC1;go_wp2_with fail;refine (HC2 _).mono ?_;rintro e w2 ⟨v2,l2,rfl,h2,hE2⟩;have HL2:=oZ h2.out;have HE2:=oZ (aA.trans HE1 hE2);have HM:=oZ (j1_ l1 l2 v1 v2 w2 (dG.ext HL1.1.at hE2) HL2.1.at HL1.2.1.1 HL2.2.1.1 (by have:=HL1.2.2.2;omega) (by have:=HL2.2.2.2;omega));clear h2 hE2 HC2;go_wp2_with fail;refine HM.mono ?_;rintro e w3 ⟨v3,l3,rfl,h3,pS⟩;have HL3:=oZ h3.out;have HE3:=oZ (aA.trans HE2 pS);have HX:=nD l3 v3 w3 HL3.1.at HL3.2.1 (by have:=HL3.2.2.2;have:=HL1.2.2.2;have:=HL2.2.2.2;omega);rw [HL3.out.2.2.1,HL1.out.2.2.1,HL2.out.2.2.1] at HX;have HX:=oZ HX;clear h3 pS HM;go_wp2_with fail;refine q_ HX (aA.trans HE3) ?_;intro w4 HE4;clear HX;go_wp2_with fail;go_ret;exact ⟨rfl,HE4⟩
theorem Q1_ (u v:Nat) (w:World) (hu:(aE u).size<=3000000000) (hv:(aE v).size<=3000000000) (ht:ag w) :
  pI 64 #[.string (aE u),.string (aE v)] w (.string (aE (u+v))):=by
 have HT:=oZ ht;clear ht;by_cases hs:(aE u).size<=18/\(aE v).size<=18
 ·have HB:=oZ (M9_ u v w hs.1 hs.2);have h1:=il hs.1;have h2:=il hs.2;obtain ⟨m,hmm⟩:=pK (u+v);have hm:m<18446744073709551616:=by omega
  rw [hmm];have yl:(u:Int)+(v:Int)=(m:Int):=by omega
  have HO:Hid (∀ W,aA w W->pI 155 #[.int .u64 m] W (.string (aE m))):=fun W hW=>nd m W hm (HT.ext hW);clear hmm
  go_enter func64,ntmps64
  go_wp2_with fail;refine p_ HB ?_;intro w1 HE1;clear HB;go_wp2_with fail;refine q_ (HO _ HE1) (aA.trans HE1) ?_;intro w2 HE2;clear HO;go_wp2_with fail;go_ret;exact ⟨rfl,HE2⟩
 ·have HB:=oZ (w0_ u v w (by omega));have HC1:Hid (∀ W,Calls prog 156 #[.string (aE u)] W fun e w'=>∃ r l,e=.returned r/\Hid (aV W.heap.size w' r l/\bJ l/\lv l=u/\l.length<=(aE u).size)/\aA W w'):=fun W=>jH u W (by omega);have HC2:Hid (∀ W,Calls prog 156 #[.string (aE v)] W fun e w'=>∃ r l,e=.returned r/\Hid (aV W.heap.size w' r l/\bJ l/\lv l=v/\l.length<=(aE v).size)/\aA W w'):=fun W=>jH v W (by omega);obtain ⟨i0,hi,pk,hz1,hz2⟩:=info_parts jq;have HI:=oZ hi;have HZ0:=oZ pk;have HZ1:=oZ hz1;have HZ2:=oZ hz2;clear hi pk hz1 hz2 hs
  go_enter func64,ntmps64
  go_wp2_with fail;refine p_ HB ?_;intro w0 HE0;clear HB;go_wp2_with fail;refine (HC1 _).mono ?_;rintro e w1 ⟨v1,l1,rfl,h1,hE1⟩;have HL1:=oZ h1.out;have HE1:=oZ (aA.trans HE0 hE1);have hb1:w.heap.size<=w0.heap.size:=HE0.size;clear h1 hE1 HC1;go_wp2_with fail;refine (HC2 _).mono ?_;rintro e w2 ⟨v2,l2,rfl,h2,hE2⟩;have HL2:=oZ h2.out;have HE2:=oZ (aA.trans HE1 hE2);have hb2:w.heap.size<=w1.heap.size:=HE1.size;have Bn:Hid (∀ b,v1.ownBlock=some b->v2.ownBlock≠some b):=fun b hb ql=>by
   have k1:=(HL1.1.lt b hb).2;have k2:=(HL2.1.lt b ql).1;omega
  have HO1:=oZ ((HL1.1.ext hE2).base hb1);have HO2:=oZ (HL2.1.base hb2);obtain ⟨a1,c1,hv1,tq,qU,-⟩:=HO1.form;obtain ⟨a2,c2,hv2,vq,hc2,-⟩:=HO2.form;have xU:l1.length<=3000000000:=by have:=HL1.2.2.2;omega
  have xT:l2.length<=3000000000:=by have:=HL2.2.2.2;omega
  clear h2 hE2 HC2;have z7:w.heap.size<=w2.heap.size:=HE2.size;subst hv1;subst hv2;have Db:Hid (∃ lX lY vX vY:_,∃ aX cX aY cY,vX=Value.slice aX (List.length lX) cX/\vY=Value.slice aY (List.length lY) cY/\aV w.heap.size w2 vX lX/\aV w.heap.size w2 vY lY/\bJ lX/\bJ lY/\lY.length<=lX.length):=by
   by_cases h:l1.length<l2.length;·exact ⟨l2,l1,_,_,a2,c2,a1,c1,rfl,rfl,HO2,HO1,HL2.2.1,HL1.2.1,by omega⟩
   ·exact ⟨l1,l2,_,_,a1,c1,a2,c2,rfl,rfl,HO1,HO2,HL1.2.1,HL2.2.1,by omega⟩
  clear Db;by_cases hlt:l1.length<l2.length
  case' pos =>
   obtain ⟨aX,rfl⟩:=pL a2;obtain ⟨cX,rfl⟩:=pL c2;obtain ⟨lX,rfl⟩:=pL l2;obtain ⟨aY,rfl⟩:=pL a1;obtain ⟨cY,rfl⟩:=pL c1;obtain ⟨lY,rfl⟩:=pL l1;have HX:=HO2;have HY:=HO1;have HCX:=oZ HL2.2.1;have HCY:=oZ HL1.2.1;have HN:Hid (∀ b,(Value.slice aX lX.length cX).ownBlock=some b->(Value.slice aY lY.length cY).ownBlock≠some b):=fun b hb ql=>Bn b ql hb;have HV:Hid (lv lX+lv lY=u+v):=by unfold Hid;rw [HL1.out.2.2.1,HL2.out.2.2.1];omega
  case' neg =>
   obtain ⟨aX,rfl⟩:=pL a1;obtain ⟨cX,rfl⟩:=pL c1;obtain ⟨lX,rfl⟩:=pL l1;obtain ⟨aY,rfl⟩:=pL a2;obtain ⟨cY,rfl⟩:=pL c2;obtain ⟨lY,rfl⟩:=pL l2;have HX:=HO1;have HY:=HO2;have HCX:=oZ HL1.2.1;have HCY:=oZ HL2.2.1;have HN:Hid (∀ b,(Value.slice aX lX.length cX).ownBlock=some b->(Value.slice aY lY.length cY).ownBlock≠some b):=Bn;have HV:Hid (lv lX+lv lY=u+v):=by unfold Hid;rw [HL1.out.2.2.1,HL2.out.2.2.1]
  all_goals
   have Ns:lY.length<=lX.length:=(by omega);have Dd:Hid (lX.length<100000000000):=(by unfold Hid;omega);clear HL1 HL2 Bn HO1 HO2;go_wp2_with (at_builtin;go_must (refine W1_ rfl _ _ rfl w.heap.size (.slice aX lX.length cX) lX 0 #[.int .u64 0] rfl HX rfl rfl Dd z7 ?_));intro v3 w3 Am tw y5;have HY3:=oZ (HY.kept tw (by cases hb:(Value.slice aY lY.length cY).ownBlock with | none=>exact .inl rfl | some b=>exact .inr fun e=>HN b e.symm hb));have HNN:Hid (∀ b,v3.ownBlock=some b->(Value.slice aY lY.length cY).ownBlock≠some b):=by
    intro b hb ql;rcases y5 with h | h;·exact HN b (h▸hb) ql
    ·rw [h] at hb;have:=(HY.lt b ql).2;cases hb;omega
   have HE3:Hid (aA w w3):=Below.trans HE2 (c:=w3) ⟨tw.os,tw.tape,tw.output,tw.size,fun k hk=>tw.block k (by omega) fun e=>by have:=(HX.lt k e.symm).1;omega⟩;obtain ⟨a3,c3,Ec,FL,xn,xg⟩:=Am.form;obtain ⟨g3,rfl,AQ,Ff⟩:=xg (by simp);subst Ec;have HO3:=oZ Am;have xW:(lX++[0]).length=lX.length+1:=(by simp);rw [xW] at HO3 HNN FL |-;clear Am tw y5 xg xW;obtain ⟨kz,zU⟩:=pL (lX.length-lY.length);have FM:(lX.length:Int)-(lY.length:Int)=(kz:Int):=(by omega);obtain ⟨v4,w4,CM,Ja,xf,Cv⟩:=Z5_ (P:=prog) w3 w.heap.size 202 3 202 i0 .i64 underlying202 underlying3 HI HZ0 HZ1 HZ2 (.slice aY lY.length cY) lY HY3 kz (by omega) (by omega) HE3.size;have HR4:=oZ CM;have FC:¬ v4.ownBlock=some g3:=by
    intro e;rcases Cv with h | h;·exact HNN g3 rfl (h▸e)
    ·rw [h] at e;cases e;omega
   have HO4:=oZ (HO3.kept xf (.inr (fun e=>HNN g3 rfl (by rw [<- e];rfl))));have HQ4:Hid (∀ W,aH (·=g3) w4 W->dG W v4 (lY++List.replicate kz 0)):=fun W hW =>
    (Ja.kept (r:=some g3) ⟨hW.os,hW.tape,hW.output,hW.size,fun k hk hne=>hW.block k hk (fun e=>hne (by rw [e]))⟩ (by cases hb:v4.ownBlock with | none=>exact .inl rfl | some b=>exact .inr (fun e=>FC (by rw [hb,e])))).at
   have HE4:Hid (aA w w4):=Below.trans HE3 (c:=w4) ⟨xf.os,xf.tape,xf.output,xf.size,fun k hk=>xf.block k (by have:=HE3.size;omega) fun e=>by have:=(HY3.lt k e.symm).1;omega⟩;have vn:(lY++List.replicate kz 0).length=lX.length:=(by simp;omega);have HBK:=c2_ w.heap.size (lX++[0]) (lY++List.replicate kz 0) 0 g3 c3 v4 w4 (by rw [pG];exact HO4) HQ4 (HCX.1.append (aP.cons (by omega) aP.nil)) (HCY.1.pad kz) (by rw [vn];simp) (by simp;omega);have xV:(lX++[0]).length=lX.length+1:=(by simp);rw [xV] at HBK;clear xV;have HBK:=oZ HBK;have HLQ:=oZ vn;clear CM Ja xf Cv zU vn;go_wp2_with (at_builtin;go_must (refine Lib.wpList_append_run _ rfl _ _ 202 3 rfl (.slice aY lY.length cY) (.int .i64 kz) rfl rfl v4 w4 HR4 ?_));refine HBK.mono ?_;rintro e w5 ⟨L,c,rfl,CY,hB,qz⟩;have HE5:Hid (aA w w5):=Below.trans HE4 (qz.belowE (B:=w.heap.size) (by rintro k rfl;exact AQ) HE4.size);have Ha:Hid (lv L=u+v):=by
    have h:=Z4c hB (by rw [HLQ.out];simp) (by rw [jM,HLQ.out];have:=fB HCX.1;simpa [lv] using this) (HCY.1.pad kz);unfold Hid;rw [h,Z31,jM,fj,eJ,<- HV.out];simp
   have HTR:=oZ (ks w.heap.size L _ w5 CY hB.pcs);have HLL:Hid (L.length<=3000000001):=(by unfold Hid;rw [hB.len];simp;omega);clear CY hB qz HBK HR4 HQ4 HO4 HO3;go_wp2_with fail;refine HTR.mono ?_;rintro e w6 ⟨v6,l6,rfl,h6,kk,rfl⟩;have H6:=oZ h6.out;have HX6:=nD l6 v6 _ H6.1.at H6.2.1 (by have:=H6.2.2.2;have:=HLL.out;omega);rw [H6.out.2.2.1,Ha.out] at HX6;have HX6:=oZ HX6;clear h6 HTR;go_wp2_with fail;refine q_ HX6 (aA.trans (aA.draws HE5 kk)) ?_;intro w7 HE7;clear HX6;go_wp2_with fail;go_ret;exact ⟨rfl,HE7⟩
theorem Q2_ (u v:Nat) (w:World) (hu:(aE u).size<=3000000000) (hv:(aE v).size<=3000000000) (hle:v<=u) (ht:ag w) :
  pI 211 #[.string (aE u),.string (aE v)] w (.tuple #[.string (aE (u-v)),.int .i64 0]):=by
 have HT:=oZ ht;have HCM:=oZ (nZ u v w (by omega) (by omega));have hcm:¬ cR u v<0:=by unfold cR;rw [if_neg (by omega)];split <;> omega
 obtain ⟨cm,vC⟩:=pL (cR u v);rw [<- vC] at HCM hcm;clear ht vC;by_cases hs:(aE u).size<=18/\(aE v).size<=18
 ·have HB:Hid (∀ W,pI 154 #[.string (aE u),.string (aE v)] W (.tuple #[.int .u64 u,.int .u64 v,.bool true])):=fun W=>M9_ u v W hs.1 hs.2;have h1:=il hs.1;have h2:=il hs.2;obtain ⟨m,hmm⟩:=pK (u-v);have hm:m<18446744073709551616:=by omega
  rw [hmm];have yl:(u:Int)-(v:Int)=(m:Int):=by omega
  have HO:Hid (∀ W,aA w W->pI 155 #[.int .u64 m] W (.string (aE m))):=fun W hW=>nd m W hm (HT.ext hW);clear hmm
  go_enter func211,ntmps211
  go_wp2_with fail;refine HCM.mono ?_;rintro e w' ⟨rfl,rfl⟩;clear HCM;go_wp2_with fail;refine p_ (HB _) ?_;intro w1 HE1;clear HB;go_wp2_with fail;refine q_ (HO _ HE1) (aA.trans HE1) ?_;intro w2 HE2;clear HO;go_wp2_with fail;go_ret2;exact ⟨rfl,HE2⟩
 ·have HB:Hid (∀ W,pI 154 #[.string (aE u),.string (aE v)] W (.tuple #[.int .u64 0,.int .u64 0,.bool false])):=fun W=>w0_ u v W (by omega);have HC1:Hid (∀ W,Calls prog 156 #[.string (aE u)] W fun e w'=>∃ r l,e=.returned r/\Hid (aV W.heap.size w' r l/\bJ l/\lv l=u/\l.length<=(aE u).size)/\aA W w'):=fun W=>jH u W (by omega);have HC2:Hid (∀ W,Calls prog 156 #[.string (aE v)] W fun e w'=>∃ r l,e=.returned r/\Hid (aV W.heap.size w' r l/\bJ l/\lv l=v/\l.length<=(aE v).size)/\aA W w'):=fun W=>jH v W (by omega);obtain ⟨i0,hi,pk,hz1,hz2⟩:=info_parts jq;have HI:=oZ hi;have HZ0:=oZ pk;have HZ1:=oZ hz1;have HZ2:=oZ hz2;clear hi pk hz1 hz2 hs
  go_enter func211,ntmps211
  go_wp2_with fail;refine r_ HCM ?_;clear HCM;go_wp2_with fail;refine p_ (HB _) ?_;intro w0 HE0;clear HB;go_wp2_with fail;refine (HC1 _).mono ?_;rintro e w1 ⟨v1,l1,rfl,h1,hE1⟩;have HL1:=oZ h1.out;have HE1:=oZ (aA.trans HE0 hE1);have HX:=oZ (h1.out.1.base HE0.size);obtain ⟨a1,c1,hv1,tq,qU,-⟩:=HX.form;have xU:l1.length<=3000000000:=by have:=HL1.2.2.2;omega
  have Dd:Hid (l1.length<100000000000):=by unfold Hid;omega
  have z8:w.heap.size<=w1.heap.size:=HE1.size;subst hv1;clear h1 hE1 HC1;go_wp2_with (at_builtin;go_must (refine W1_ rfl _ _ rfl w.heap.size (.slice a1 l1.length c1) l1 0 #[.int .u64 0] rfl HX rfl rfl Dd z8 ?_));intro v3 w3 Am tw y5;have HE3:Hid (aA w w3):=Below.trans HE1 (c:=w3) ⟨tw.os,tw.tape,tw.output,tw.size,fun k hk=>tw.block k (by omega) fun e=>by have:=(HX.lt k e.symm).1;omega⟩;obtain ⟨a3,c3,Ec,FL,xn,xg⟩:=Am.form;obtain ⟨g3,rfl,AQ,Ff⟩:=xg (by simp);subst Ec;have HO3:=oZ Am;have xW:(l1++[0]).length=l1.length+1:=by simp
  rw [xW] at HO3 FL |-;clear Am tw y5 xg xW;go_wp2_with fail;refine (HC2 _).mono ?_;rintro e w4 ⟨v4,l4,rfl,h4,hE4⟩;have HL4:=oZ h4.out;have HE4:=oZ (aA.trans HE3 hE4);have IV:w3.heap.size<=w4.heap.size:=hE4.size;have HO4:=oZ (HO3.ext hE4);clear h4 hE4 HO3;go_wp2_with fail;refine (HC2 _).mono ?_;rintro e w5 ⟨v5,l5,rfl,h5,pV⟩;have HL5:=oZ h5.out;have HE5:=oZ (aA.trans HE4 pV);have HO5:=oZ (HO4.ext pV);have HY5:=oZ (HL4.1.ext pV);have xS:l5.length=l4.length:=by
   have h1:=bJ.length_le HL5.2.1 HL4.2.1 (by rw [HL5.out.2.2.1,HL4.out.2.2.1];exact oz _);have h2:=bJ.length_le HL4.2.1 HL5.2.1 (by rw [HL5.out.2.2.1,HL4.out.2.2.1];exact oz _);omega
  have Is:l4.length<=l1.length:=bJ.length_le HL4.2.1 HL1.2.1 (by rw [HL4.out.2.2.1,HL1.out.2.2.1];exact hle);obtain ⟨a4,c4,Eb,NV,AU,-⟩:=HY5.form;obtain ⟨a5,c5,vI,NU,Nq,-⟩:=HL5.1.form;subst Eb;subst vI;have HNN:Hid (∀ b,(Value.slice a4 l4.length c4).ownBlock=some b->b≠g3):=fun b hb e=>by
   have:=(HL4.1.lt b hb).1;omega
  rw [xS];obtain ⟨kz,zU⟩:=pL (l1.length-l4.length);have FM:(l1.length:Int)-(l4.length:Int)=(kz:Int):=by omega
  have yg:w.heap.size<=w5.heap.size:=HE5.size;have HY5':=oZ (HY5.base (B':=w.heap.size) (by have:=HE3.size;omega));obtain ⟨v6,w6,Ic,JZ,sU,Cu⟩:=Z5_ (P:=prog) w5 w.heap.size 202 3 202 i0 .i64 underlying202 underlying3 HI HZ0 HZ1 HZ2 (.slice a4 l4.length c4) l4 HY5' kz (by omega) (by omega) yg;have HR6:=oZ Ic;have FB:¬ v6.ownBlock=some g3:=by
   intro e;rcases Cu with h | h;·exact HNN g3 (h▸e) rfl
   ·rw [h] at e;cases e;have:=HE5.size;have h5:=(HO5.lt w5.heap.size rfl).2;omega
  have HO6:=oZ (HO5.kept sU (.inr (fun e=>HNN g3 e.symm rfl)));have KA:Hid (∀ W,aH (·=g3) w6 W->dG W v6 (l4++List.replicate kz 0)):=fun W hW =>
   (JZ.kept (r:=some g3) ⟨hW.os,hW.tape,hW.output,hW.size,fun k hk hne=>hW.block k hk (fun e=>hne (by rw [e]))⟩ (by cases hb:v6.ownBlock with | none=>exact .inl rfl | some b=>exact .inr (fun e=>FB (by rw [hb,e])))).at
  have HE6:Hid (aA w w6):=Below.trans HE5 (c:=w6) ⟨sU.os,sU.tape,sU.output,sU.size,fun k hk=>sU.block k (by omega) fun e=>by have:=(HY5'.lt k e.symm).1;omega⟩;have vn:(l4++List.replicate kz 0).length=l1.length:=by simp;omega
  have HTK:=Z0m w.heap.size (l1++[0]) (l4++List.replicate kz 0) 1 0 g3 c3 v6 w6 (by rw [pG];exact HO6) KA (HL1.2.1.1.append (aP.cons (by omega) aP.nil)) (HL4.2.1.1.pad kz) (by omega) (by rw [vn];simp) (by simp;omega);have xV:(l1++[0]).length=l1.length+1:=by simp
  rw [xV] at HTK;have HTK:=oZ HTK;have HLQ:=oZ vn;clear Ic JZ sU Cu zU vn xV xS h5 pV HC2;go_wp2_with (at_builtin;go_must (refine Lib.wpList_append_run _ rfl _ _ 202 3 rfl (.slice a4 l4.length c4) (.int .i64 kz) rfl rfl v6 w6 HR6 ?_));refine HTK.mono ?_;rintro e w7 ⟨L,b,rfl,CX,hT,BX⟩;have HE7:Hid (aA w w7):=Below.trans HE6 (BX.belowE (B:=w.heap.size) (by rintro k rfl;exact AQ) HE6.size);have EJ:Hid (lv L=u-v):=by
   have h:=(Z3X hT (by rw [HLQ.out];simp) (by rw [Z31,HL4.out.2.2.1,jM,HL1.out.2.2.1];omega)).1;unfold Hid;rw [h,Z31,jM,fj,eJ,HL4.out.2.2.1,HL1.out.2.2.1];simp
  have HTR:=oZ (ks w.heap.size L _ w7 CX hT.pcs);have HLL:Hid (L.length<=3000000001):=by unfold Hid;rw [hT.len];simp;omega
  clear CX hT BX HTK HR6 KA HO6 HO5 HO4;go_wp2_with fail;refine HTR.mono ?_;rintro e w8 ⟨v8,l8,rfl,h8,kk,rfl⟩;have H8:=oZ h8.out;have HX8:=nD l8 v8 _ H8.1.at H8.2.1 (by have:=H8.2.2.2;have:=HLL.out;omega);rw [H8.out.2.2.1,EJ.out] at HX8;have HX8:=oZ HX8;clear h8 HTR;go_wp2_with fail;refine q_ HX8 (aA.trans (aA.draws HE7 kk)) ?_;intro w9 HE9;clear HX8;go_wp2_with fail;go_ret2;exact ⟨rfl,HE9⟩
theorem p1_ (u v:Nat) (w:World) (hu:(aE u).size<=3000000000) (hv:(aE v).size<=3000000000) (vJ:v≠0) (ht:ag w) (hs:¬ ((aE u).size<=18/\(aE v).size<=18)) (hlt:u<v) :
  pI 210 #[.string (aE u),.string (aE v)] w (.tuple #[.string ⟨#[48]⟩,.string (aE u),.int .i64 0]):=by
 have HT:=oZ ht;have hz:=kd v;rw [pD vJ] at hz;clear ht;have HB:=oZ (w0_ u v w (by omega));clear hs;have HC1:Hid (∀ W,Calls prog 156 #[.string (aE u)] W fun e w'=>∃ r l,e=.returned r/\Hid (aV W.heap.size w' r l/\bJ l/\lv l=u/\l.length<=(aE u).size)/\aA W w'):=fun W=>jH u W (by omega);have HC2:Hid (∀ W,Calls prog 156 #[.string (aE v)] W fun e w'=>∃ r l,e=.returned r/\Hid (aV W.heap.size w' r l/\bJ l/\lv l=v/\l.length<=(aE v).size)/\aA W w'):=fun W=>jH v W (by omega)
 go_enter func210,ntmps210
 go_wp2_with fail;refine p_ HB ?_;intro w0 HE0;clear HB;go_wp2_with fail;refine (HC1 _).mono ?_;rintro e w1 ⟨v1,l1,rfl,h1,hE1⟩;have HL1:=oZ h1.out;have HE1:=oZ (aA.trans HE0 hE1);clear h1 hE1 HC1;go_wp2_with fail;refine (HC2 _).mono ?_;rintro e w2 ⟨v2,l2,rfl,h2,hE2⟩;have HL2:=oZ h2.out;have HE2:=oZ (aA.trans HE1 hE2);have HP1:=oZ (dG.ext HL1.1.at hE2);have HP2:=oZ HL2.1.at;have xU:l1.length<=3000000000:=by have:=HL1.2.2.2;omega
 have xT:l2.length<=3000000000:=by have:=HL2.2.2.2;omega
 have HC1':=oZ HL1.2.1;have HC2':=oZ HL2.2.1;have HV1:=oZ HL1.2.2.1;have HV2:=oZ HL2.2.2.1;obtain ⟨a1,c1,hv1,tq,qU,-⟩:=HP1.open;obtain ⟨a2,c2,hv2,vq,hc2,qg⟩:=HP2.open;have tm:0<l2.length:=by
  refine List.length_pos_iff.2 fun e=>?_;have:=HC2'.zero.2 e;rw [HV2.out] at this;exact vJ this
 obtain ⟨b2,o2,rfl,-,rM⟩:=qg (List.length_pos_iff.1 tm);have HCELL:=oZ rM;clear rM;subst hv1;subst hv2;have hcmp:=N5_ l1 l2 _ _ w2 HP1 HP2 HC1' HC2' (by omega) (by omega);rw [HV1.out,HV2.out] at hcmp;have HCM:=oZ hcmp;clear hcmp;clear h2 hE2 HC2 qg;have hcm:cR u v<0:=by rw [w2_ hlt];omega
 obtain ⟨cm,vC⟩:=pL (cR u v);rw [<- vC] at HCM hcm;clear vC;go_wp2_with fail;refine q_ HCM (aA.trans HE2) ?_;intro w3 HE3;clear HCM;go_wp2_with fail;go_ret3;exact ⟨rfl,HE3⟩
theorem p0_ (u v:Nat) (w:World) (hu:(aE u).size<=3000000000) (hv:(aE v).size<=3000000000) (vJ:v≠0) (ht:ag w) (hs:¬ ((aE u).size<=18/\(aE v).size<=18)) (hlt:¬ u<v) :
  pI 210 #[.string (aE u),.string (aE v)] w (.tuple #[.string (aE (u / v)),.string (aE (u%v)),.int .i64 0]):=by
 have HT:=oZ ht;have hz:=kd v;rw [pD vJ] at hz;clear ht;have HB:=oZ (w0_ u v w (by omega));clear hs;have HC1:Hid (∀ W,Calls prog 156 #[.string (aE u)] W fun e w'=>∃ r l,e=.returned r/\Hid (aV W.heap.size w' r l/\bJ l/\lv l=u/\l.length<=(aE u).size)/\aA W w'):=fun W=>jH u W (by omega);have HC2:Hid (∀ W,Calls prog 156 #[.string (aE v)] W fun e w'=>∃ r l,e=.returned r/\Hid (aV W.heap.size w' r l/\bJ l/\lv l=v/\l.length<=(aE v).size)/\aA W w'):=fun W=>jH v W (by omega)
 go_enter func210,ntmps210
 go_wp2_with fail;refine p_ HB ?_;intro w0 HE0;clear HB;go_wp2_with fail;refine (HC1 _).mono ?_;rintro e w1 ⟨v1,l1,rfl,h1,hE1⟩;have HL1:=oZ h1.out;have HE1:=oZ (aA.trans HE0 hE1);clear h1 hE1 HC1;go_wp2_with fail;refine (HC2 _).mono ?_;rintro e w2 ⟨v2,l2,rfl,h2,hE2⟩;have HL2:=oZ h2.out;have HE2:=oZ (aA.trans HE1 hE2);have HP1:=oZ (dG.ext HL1.1.at hE2);have HP2:=oZ HL2.1.at;have xU:l1.length<=3000000000:=by have:=HL1.2.2.2;omega
 have xT:l2.length<=3000000000:=by have:=HL2.2.2.2;omega
 have HC1':=oZ HL1.2.1;have HC2':=oZ HL2.2.1;have HV1:=oZ HL1.2.2.1;have HV2:=oZ HL2.2.2.1;obtain ⟨a1,c1,hv1,tq,qU,-⟩:=HP1.open;obtain ⟨a2,c2,hv2,vq,hc2,qg⟩:=HP2.open;have tm:0<l2.length:=by
  refine List.length_pos_iff.2 fun e=>?_;have:=HC2'.zero.2 e;rw [HV2.out] at this;exact vJ this
 obtain ⟨b2,o2,rfl,-,rM⟩:=qg (List.length_pos_iff.1 tm);have HCELL:=oZ rM;clear rM;subst hv1;subst hv2;have hcmp:=N5_ l1 l2 _ _ w2 HP1 HP2 HC1' HC2' (by omega) (by omega);rw [HV1.out,HV2.out] at hcmp;have HCM:=oZ hcmp;clear hcmp;clear h2 hE2 HC2 qg;have hcm:¬ cR u v<0:=by unfold cR;rw [if_neg hlt];split <;> omega
 obtain ⟨cm,vC⟩:=pL (cR u v);rw [<- vC] at HCM hcm;clear vC;have HLL:Hid (l2.length<=l1.length):=bJ.length_le HC2' HC1' (by rw [HV1.out,HV2.out];omega);by_cases h1:l2.length=1
 ·obtain ⟨x,hx⟩:=List.length_eq_one_iff.1 h1;have ID:x=v:=by have:=HV2.out;rw [hx,fj,eJ] at this;omega
  rw [ID] at hx;clear ID;have g2:=HCELL 0 v (by rw [hx];rfl);have hxb:v<1000000000:=HC2'.1 v (by rw [hx];simp);have HSM:Hid (∀ W,aA w2 W->Calls prog 286 #[.slice a1 l1.length c1,.int .u64 v] W fun e w'=>∃ r l,e=.returned (.tuple #[r,.int .u64 ((u%v:Nat):Int)])/\Hid (aV W.heap.size w' r l/\bJ l/\lv l=u / v/\l.length<=l1.length)/\aA W w'):=fun W hW=>by
   have:=k1_ l1 v _ W (dG.ext HP1 hW) HC1'.1 hxb (by omega) (by omega);rw [HV1.out] at this;exact this
  have Dv:0<l2.length:=tm;have Mn:Hid (∀ W,aA w2 W->W.cell? ⟨b2,o2,none⟩=some (.int .u64 v)):=fun W hW=>hW.cell (by simpa using g2);obtain ⟨r,hr⟩:=pL (u%v);have NJ:r<v:=by rw [hr];exact Nat.mod_lt _ (by omega)
  rw [<- hr] at HSM;have HRR:=oZ hr;have HRB:=oZ (show r<18446744073709551616 by omega);rw [h1] at HCM Dv vq |-;clear hx g2 hr h1 tm xT HLL;go_wp2_with fail;refine HCM.mono ?_;rintro e w3 ⟨rfl,pS⟩;have HE3:=oZ (aA.trans HE2 pS);have g3:=Mn _ pS;have HSM3:=oZ (HSM _ pS);clear pS HCM HSM;go_wp2_with fail;refine HSM3.mono ?_;rintro e w4 ⟨v4,l4,rfl,h4,hE4⟩;have HL4:=oZ h4.out;have HE4:=oZ (aA.trans HE3 hE4);have HX4:=nD l4 v4 w4 HL4.1.at HL4.2.1 (by have:=HL4.2.2.2;omega);rw [HL4.out.2.2.1] at HX4;have HX4:=oZ HX4;have HOR:Hid (∀ W,aA w W->pI 155 #[.int .u64 r] W (.string (aE r))):=fun W hW=>nd r W HRB (HT.ext hW);clear h4 hE4 HSM3 g3;go_wp2_with fail;refine q_ HX4 (aA.trans HE4) ?_;intro w5 HE5;clear HX4;go_wp2_with fail;refine q_ (HOR _ HE5) (aA.trans HE5) ?_;intro w6 HE6;clear HOR;go_wp2_with fail;go_ret3;exact ⟨by rw [<- HRR.out];rfl,HE6⟩
 ·have Aw:((l2.length:Int) == 1)=false:=by rw [beq_eq_false_iff_ne];omega
  have HQ2:=oZ (show 2<=l2.length by omega);clear h1;have rB:Hid (∀ W,aA w2 W->Calls prog 287 #[.slice a1 l1.length c1,.slice (some ⟨b2,o2,none⟩) l2.length c2] W fun e w'=>∃ r1 m1 r2 m2,e=.returned (.tuple #[r1,r2])/\Hid (aV W.heap.size w' r1 m1/\bJ m1/\lv m1=u / v/\m1.length<=l1.length+2)/\Hid (aV W.heap.size w' r2 m2/\bJ m2/\lv m2=u%v/\m2.length<=l1.length+2)/\aA W w'):=fun W hW=>by
   have:=Z0J l1 l2 _ _ W (dG.ext HP1 hW) (dG.ext HP2 hW) HC1' HC2' HQ2 HLL (by omega);rw [HV1.out,HV2.out] at this;exact this
  go_wp2_with fail;refine HCM.mono ?_;rintro e w3 ⟨rfl,pS⟩;have HE3:=oZ (aA.trans HE2 pS);have HD3:=oZ (rB _ pS);clear pS HCM rB;go_wp2_with fail;refine HD3.mono ?_;rintro e w4 ⟨q1,m1,q2,m2,rfl,h4,h5,hE4⟩;have HL4:=oZ h4.out;have HL5:=oZ h5.out;have HE4:=oZ (aA.trans HE3 hE4);have HX4:=nD m1 q1 w4 HL4.1.at HL4.2.1 (by have:=HL4.2.2.2;omega);rw [HL4.out.2.2.1] at HX4;have HX4:=oZ HX4;have HX5:Hid (∀ W,aA w4 W->pI 159 #[q2] W (.string (aE (u%v)))):=fun W hW=>by
   have:=nD m2 q2 W (dG.ext HL5.1.at hW) HL5.2.1 (by have:=HL5.2.2.2;omega);rw [HL5.out.2.2.1] at this;exact this
  clear h4 h5 hE4 HD3;go_wp2_with fail;refine HX4.mono ?_;rintro e w5 ⟨rfl,pV⟩;have HE5:=oZ (aA.trans HE4 pV);have HX55:=oZ (HX5 _ pV);clear pV HX4 HX5;go_wp2_with fail;refine q_ HX55 (aA.trans HE5) ?_;intro w6 HE6;clear HX55;go_wp2_with fail;go_ret3;exact ⟨rfl,HE6⟩
theorem Y9_ (u v:Nat) (w:World) (hu:(aE u).size<=3000000000) (hv:(aE v).size<=3000000000) (vJ:v≠0) (ht:ag w) :
  pI 210 #[.string (aE u),.string (aE v)] w (.tuple #[.string (aE (u / v)),.string (aE (u%v)),.int .i64 0]):=by
 have HT:=oZ ht;have hz:=kd v;rw [pD vJ] at hz;clear ht;by_cases hs:(aE u).size<=18/\(aE v).size<=18
 ·have HB:=oZ (M9_ u v w hs.1 hs.2);have h1:=il hs.1;have h2:=il hs.2;obtain ⟨q,hq⟩:=pK (u / v);obtain ⟨r,hr⟩:=pK (u%v);have Ez:q<=u:=by rw [<- hq];exact Nat.div_le_self _ _
  have CL:r<v:=by rw [<- hr];exact Nat.mod_lt _ (by omega)
  have Dq:(u:Int) / (v:Int)=(q:Int):=by rw [<- hq];exact (Int.natCast_ediv _ _).symm
  have r6:(u:Int)%(v:Int)=(r:Int):=by rw [<- hr];exact (Int.natCast_emod _ _).symm
  have NF:((v:Int) == 0)=false:=by rw [beq_eq_false_iff_ne];omega
  have Kj:¬ (v:Int)=0:=by omega
  have HO:Hid (∀ x:Nat,x<18446744073709551616->∀ W,aA w W->pI 155 #[.int .u64 x] W (.string (aE x))):=fun x hx W hW=>nd x W hx (HT.ext hW);have NM:IntKind.u64.wrap (q:Int)=(q:Int):=IntWalk.u64_in _ (by omega);have NK:IntKind.u64.wrap (r:Int)=(r:Int):=IntWalk.u64_in _ (by omega);have NN:(u:Int).tdiv (v:Int)=(q:Int):=by rw [Int.tdiv_eq_ediv_of_nonneg (by omega),Dq]
  have hrt:(u:Int).tmod (v:Int)=(r:Int):=by rw [Int.tmod_eq_emod_of_nonneg (by omega),r6]
  rw [hq,hr];have J9:Hid (q<18446744073709551616/\r<18446744073709551616):=by unfold Hid;omega
  clear hq hr
  go_enter func210,ntmps210
  go_wp2_with fail;refine p_ HB ?_;intro w1 HE1;clear HB;go_wp2_with fail;have HOQ:Hid (∀ W,aA w W->pI 155 #[.int .u64 q] W (.string (aE q))):=HO q J9.1;have HOR:Hid (∀ W,aA w W->pI 155 #[.int .u64 r] W (.string (aE r))):=HO r J9.2;have HE:Hid (aA w w1.drew):=aA.trans HE1 (aA.drew _)
  go_region_with (first
   | (go_at_call 155;with_reducible refine (HOQ.out _ HE.out).mono ?_;rintro e w5 ⟨rfl,pV⟩;have HE2:=HE;clear HE;have HE:=oZ (aA.trans HE2.out pV);clear pV HE2)
   | (go_at_call 155;with_reducible refine (HOR.out _ HE.out).mono ?_;rintro e w5 ⟨rfl,pV⟩;have HE2:=HE;clear HE;have HE:=oZ (aA.trans HE2.out pV);clear pV HE2))
  all_goals
   go_wp2_with fail;go_ret3;exact ⟨rfl,HE⟩
 ·by_cases hlt:u<v
  ·have L3:aE 0=⟨#[48]⟩:=(by unfold aE;rw [Lib.decDigits_one (by omega)];rfl);refine (p1_ u v w hu hv vJ HT hs hlt).mono fun e w' ⟨h,hE⟩=>⟨?_,hE⟩
   rw [h,Nat.div_eq_of_lt hlt,Nat.mod_eq_of_lt hlt,L3]
  ·exact p0_ u v w hu hv vJ HT hs hlt
end Go.Proofs.YtoonaddcfakamaaGreatDoor
