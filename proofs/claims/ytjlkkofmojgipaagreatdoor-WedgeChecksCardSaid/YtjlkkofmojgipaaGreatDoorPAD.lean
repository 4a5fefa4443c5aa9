import Derived.Test.YtjlkkofmojgipaaGreatDoorPAC
import Derived.Test.YtjlkkofmojgipaaGreatDoorShelfA
import Derived.Lib.AppendIntMem
import Derived.BigCall
import Derived.BigGuard
import Derived.Lib.ParseIntBTie
import Derived.Lib.ParseIntBCases
import Derived.Lib.AppendZerosOnto
import Derived.WalkLawsBesides
import Derived.Deep.RegionWith
namespace Go.Proofs.YtjlkkofmojgipaaGreatDoor
set_option linter.unusedVariables false
set_option linter.unusedSimpArgs false
open Go.RowKit Go.Shelf Go.Sort Go.Lib
def Pow10 (w : World) : Prop := Lib.TabIs Tryz.prog w "internal/strconv.uint64pow10" .u64 Lib.pow10Tab
theorem Pow10.ext {w w':World} (h:Pow10 w) (he:Ext w w'):Pow10 w':=by
 unfold Pow10 Lib.TabIs at h ⊢
 cases hg : Tryz.prog.globalNamed "internal/strconv.uint64pow10" with
 | none=>simp [World.var?,hg] at h
 | some g =>
  refine var?_below he hg ?_ h
  by_cases hlt:g<w.heap.size
  ·exact hlt
  ·simp [World.var?,hg,Array.getElem?_eq_none (show w.heap.size≤g by omega)] at h
theorem ret_str {a b:ByteArray} (h:a.data=b.data):Ending.returned (.string a)=.returned (.string b):=by
 cases a;cases b;simp only at h;rw [h]
theorem ret_int {k:IntKind} {a b:Int} (h:a=b):Ending.returned (.int k a)=.returned (.int k b):=by rw [h]
theorem bytes_ext {a b:ByteArray} (h:a.data.toList=b.data.toList):a=b:=by
 cases a;cases b;simp only at h;rw [ByteArray.mk.injEq];exact Array.toList_inj.1 h
theorem grow_ext (w:World) (k:Nat) (os:Array Obj):Ext w (grow (w.drewN k) os):=Lib.below_grow _ w (Nat.le_refl _) k os
theorem fin_zero (w:World) (o:Obj) (dk:Array UInt8) (k:Nat):∃ os,(putRow (fun (b:UInt8)=>Value.int .u8 (b.toNat:Int)) (w.alloc o) w.heap.size 0 dk).drewN k=grow (w.drewN k) os:=by
 rw [alloc_eq_grow]
 obtain ⟨os',_,e⟩:=putRow_grow_new (fun (b:UInt8)=>Value.int .u8 (b.toNat:Int)) w #[o] w.heap.size 0 dk (Nat.le_refl _)
 exact ⟨os',by rw [e];rfl⟩
set_option maxHeartbeats 6400000 in
set_option maxRecDepth 100000 in
theorem formatUint_inner (u:Nat) (w:World) (hu:u<18446744073709551616) (ht:Pow10 w) :
  Calls Tryz.prog 219 #[.int .u64 u,.int .i64 10] w fun e w'=>e=.returned (.string (numB u))∧Ext w w':=by
 have hN:numB u=⟨(Lib.decDigits u).toArray⟩:=rfl
 by_cases hs:u<100
 ·have HS:Hid (∀ W,Calls Tryz.prog 220 #[.int .i64 u] W fun e w'=>e=.returned (.string (numB u))∧w'=W):=fun W=>Tryz.internal_strconv_small u hs W
  clear hN
  go_enter Tryz.func219,Tryz.ntmps219
  go_wp2_with fail
  refine (HS.out _).mono ?_
  rintro e w' ⟨rfl,rfl⟩
  go_wp2_with fail
  go_ret
  exact ⟨rfl,Ext.refl _⟩
 ·have hu1:1≤u:=by omega
  have hnd20:Lib.nDigits u≤20:=by have:=Lib.numDigits_eq u hu1 hu;split at this <;> omega
  have hb3:Lib.nDigits u≤24:=by omega
  have hal:Tryz.prog.arrayLen 254=24:=by simp [Program.arrayLen,Tryz.underlying254]
  have hsl1:∀ W,(Instr.sliceAt 254 (.pointer (some ⟨w.heap.size,0,none⟩)) none (some (.int .i64 (Lib.nDigits u:Int))) none).run Tryz.prog W=.ok (.slice (some ⟨w.heap.size,0,none⟩) (Lib.nDigits u) 24) W:=fun W=>by
   rw [run_sliceAt_array_h W 254 ⟨w.heap.size,0,none⟩ (by simp [Program.arrayLen,Program.elem,Tryz.underlying254]) .i64 (Lib.nDigits u:Int) (by omega) (by rw [hal];omega)]
   go_simp
  have hH0:=Lib.holds_zero0 w 254 (Lib.nDigits u) (by omega)
  have hfmt:=Tryz.internal_strconv_formatBase10 w.heap.size 0 24 u (Array.replicate (Lib.nDigits u) 0) (w.alloc (.cells Lib.zeros24 254)) hH0 (by rw [Array.size_replicate];exact Lib.lt_pow_nDigits u) hu (by rw [Array.size_replicate];omega)
  rw [Array.size_replicate] at hfmt
  have HH0:=Lib.hid hH0
  have HT:=Lib.hid ht
  have HN:Hid (∀ W,Pow10 W→Calls Tryz.prog 221 #[.int .u64 u] W fun e w'=>e=.returned (.int .i64 (Lib.nDigits u))∧w'=W):=fun W hW=>Tryz.internal_strconv_numDigits u hu1 hu W hW
  clear hH0 hal ht
  go_enter Tryz.func219,Tryz.ntmps219
  go_wp2_with fail
  refine (HN.out _ (HT.out.ext (Ext.alloc _ _))).mono ?_
  rintro e w' ⟨rfl,rfl⟩
  go_wp2_with fail
  refine hfmt.mono ?_
  rintro e w' ⟨rfl,k,v',dk,rfl,hF⟩
  have hcv:(convert 241 9 (.slice (some ⟨w.heap.size,0,none⟩) (Lib.nDigits u) 24)).run Tryz.prog ((putRow (fun (b:UInt8)=>Value.int .u8 (b.toNat:Int)) (w.alloc (.cells Lib.zeros24 254)) w.heap.size 0 dk).drewN k)=.ok (.string (numB u)) ((putRow (fun (b:UInt8)=>Value.int .u8 (b.toNat:Int)) (w.alloc (.cells Lib.zeros24 254)) w.heap.size 0 dk).drewN k):=by
   have h:=run_convert_bytes_back (P:=Tryz.prog) ((putRow (fun (b:UInt8)=>Value.int .u8 (b.toNat:Int)) (w.alloc (.cells Lib.zeros24 254)) w.heap.size 0 dk).drewN k) 241 9 5 ⟨w.heap.size,0,none⟩ 24 (Lib.decDigits u) Tryz.underlying241 Tryz.underlying5 Tryz.underlying9 (fun j hj=>by
    rw [Lib.row_is_numeral hF j hj,Lib.add_plain,World.cell?_drewN]
    exact cell?_putRow (fun (b:UInt8)=>Value.int .u8 (b.toNat:Int)) _ w.heap.size 0 _ dk HH0.out (by rw [hF.size,Array.size_replicate]) j (by rw [hF.size];rw [Lib.decDigits_length] at hj;exact hj))
   rw [Lib.decDigits_length] at h
   exact h
  clear hN HT HN hfmt
  go_wp2_with fail
  go_ret
  obtain ⟨os,eo⟩:=fin_zero w (.cells zeros24 254) dk k
  exact ⟨rfl,by rw [eo];exact grow_ext w k os⟩
theorem formatUint_any (u:Nat) (w:World) (hu:u<18446744073709551616) (ht:Pow10 w) :
  Calls Tryz.prog 204 #[.int .u64 u,.int .i64 10] w fun e w'=>e=.returned (.string (numB u))∧Ext w w':=by
 have HF:=Lib.hid (formatUint_inner u w hu ht)
 clear ht
 go_enter Tryz.func204,Tryz.ntmps204
 go_wp2_with fail
 refine HF.out.mono ?_
 rintro e w1 ⟨rfl,hE⟩
 have HE:=Lib.hid hE
 clear hE HF
 go_wp2_with fail
 go_ret
 exact ⟨rfl,HE.out⟩
theorem decOf_any (u:Nat) (w:World) (hu:u<18446744073709551616) (ht:Pow10 w) :
  Calls Tryz.prog 168 #[.int .u64 u] w fun e w'=>e=.returned (.string (numB u))∧Ext w w':=by
 have HF:=Lib.hid (formatUint_any u w hu ht)
 clear ht
 go_enter Tryz.func168,Tryz.ntmps168
 go_wp2_with fail
 refine HF.out.mono ?_
 rintro e w1 ⟨rfl,hE⟩
 have HE:=Lib.hid hE
 clear hE HF
 go_wp2_with fail
 go_ret
 exact ⟨rfl,HE.out⟩
theorem parseUint_num (u:Nat) (hu:u<18446744073709551616):Lib.parseUintB 64 (numB u).data.toList=.ok u:=by
 have h:=parseUint10_ok (Lib.decDigits u) 0 (digits_all u) (by rw [digits_val];exact hu)
 rw [digits_val] at h
 rw [numB_data]
 have hne:Lib.decDigits u≠[]:=by
  have:=Lib.nDigits_pos u
  rw [← Lib.decDigits_length] at this
  exact List.length_pos_iff.1 this
 unfold Lib.parseUintB
 rw [if_neg hne,show (2^64-1:Nat)=18446744073709551615 by decide,Lib.parseUintM_64,h]
theorem decSmall_any (u:Nat) (w:World) (hu:u<18446744073709551616) (hs:(numB u).size≤100000000000) :
  Calls Tryz.prog 203 #[.string (numB u)] w fun e w'=>e=.returned (.tuple #[.int .u64 u,.bool true])∧Ext w w':=by
 have HP:Hid (Calls Tryz.prog 218 #[.string (numB u),.int .i64 10,.int .i64 64] w fun e w'=>e=.returned (.tuple #[.int .u64 u,.nilIface])∧Ext w w') :=
  (Tryz.strconv_ParseUint_10_at64_ok (numB u) (by omega) u (parseUint_num u hu) w).mono fun e w' ⟨h1,h2⟩=>⟨h1,by
   rcases h2 with rfl | rfl
   ·exact Ext.refl _
   ·exact ⟨rfl,rfl,rfl,by rw [Lib.bytesWorld_size];omega,fun j hj=>Lib.bytesWorld_at_old w _ _ j hj⟩⟩
 go_enter Tryz.func203,Tryz.ntmps203
 go_wp2_with fail
 refine HP.out.mono ?_
 rintro e w1 ⟨rfl,hE1⟩
 have HE1:=Lib.hid hE1
 clear hE1 HP
 go_wp2_with fail
 go_ret2
 exact ⟨rfl,HE1.out⟩
set_option maxRecDepth 100000 in
set_option maxHeartbeats 400000 in
theorem both_yes (u v:Nat) (w:World) (hu:(numB u).size≤18) (hv:(numB v).size≤18) :
  Calls Tryz.prog 167 #[.string (numB u),.string (numB v)] w fun e w'=>e=.returned (.tuple #[.int .u64 u,.int .u64 v,.bool true])∧Ext w w':=by
 have hb:∀ x:Nat,(numB x).size≤18→x<18446744073709551616:=by
  intro x hx
  rw [numB_size] at hx
  have h1:=Lib.lt_pow_nDigits x
  have h2:10^Lib.nDigits x≤10^18:=Nat.pow_le_pow_right (by omega) hx
  rw [show (10:Nat)^18=1000000000000000000 by decide] at h2
  omega
 have H1:Hid (∀ W,Calls Tryz.prog 203 #[.string (numB u)] W fun e w'=>e=.returned (.tuple #[.int .u64 u,.bool true])∧Ext W w'):=fun W=>decSmall_any u W (hb u hu) (by omega)
 have H2:Hid (∀ W,Calls Tryz.prog 203 #[.string (numB v)] W fun e w'=>e=.returned (.tuple #[.int .u64 v,.bool true])∧Ext W w'):=fun W=>decSmall_any v W (hb v hv) (by omega)
 have q1:decide (18<((numB u).size:Int))=false:=decide_eq_false (by omega)
 have q2:decide (18<((numB v).size:Int))=false:=decide_eq_false (by omega)
 clear hb
 go_enter Tryz.func167,Tryz.ntmps167
 go_wp2_with fail
 refine (H1.out _).mono ?_
 rintro e w1 ⟨rfl,hE1⟩
 have HE1:=Lib.hid hE1
 clear hE1 H1
 go_wp2_with fail
 refine (H2.out _).mono ?_
 rintro e w2 ⟨rfl,hE2⟩
 have HE2:=Lib.hid (Ext.trans HE1.out hE2)
 clear hE2 H2
 go_wp2_with fail
 go_ret3
 exact ⟨rfl,HE2.out⟩
set_option maxRecDepth 100000 in
theorem both_no (u v:Nat) (w:World) (h:18<(numB u).size∨18<(numB v).size) :
  Calls Tryz.prog 167 #[.string (numB u),.string (numB v)] w fun e w'=>e=.returned (.tuple #[.int .u64 0,.int .u64 0,.bool false])∧Ext w w':=by
 by_cases h1:18<(numB u).size
 ·have q1:decide (18<((numB u).size:Int))=true:=decide_eq_true (by omega)
  clear h
  go_enter Tryz.func167,Tryz.ntmps167
  go_wp2_with fail
  go_ret3
  exact ⟨rfl,Ext.refl _⟩
 ·have h2:18<(numB v).size:=by omega
  have q1:decide (18<((numB u).size:Int))=false:=decide_eq_false (by omega)
  have q2:decide (18<((numB v).size:Int))=true:=decide_eq_true (by omega)
  clear h
  go_enter Tryz.func167,Tryz.ntmps167
  go_wp2_with fail
  go_ret3
  exact ⟨rfl,Ext.refl _⟩
end Go.Proofs.YtjlkkofmojgipaaGreatDoor
namespace Go.Proofs.YtjlkkofmojgipaaGreatDoor
set_option linter.unusedVariables false
set_option linter.unusedSimpArgs false
open Go.RowKit
theorem GrownS.store {S:Nat→Prop} {w w':World} (h:GrownS S w w') {g:Nat} (hg:S g) (i:Nat) (v:Value):GrownS S w (w'.setCell ⟨g,i,none⟩ v) :=
 h.trans (grownBy_S (grown_setCell w' g i v) (fun k hk=>by cases hk;exact hg))
structure TakeK (p q:List Nat) (n i k c b:Nat) (L:List Nat):Prop where
 len:L.length=p.length
 pcs:Pcs L
 lt:c<1000000000
 le:b≤1
 low:L.take i=p.take i
 rest:L.drop (i+k)=p.drop (i+k)
 val:lv L+n*(pB i*lv (q.take k))=lv p+(c+b)*pB (i+k)
theorem TakeK.start {p q:List Nat} {n i:Nat} (hp:Pcs p):TakeK p q n i 0 0 0 p :=
 ⟨rfl,hp,by omega,by omega,rfl,rfl,by rw [List.take_zero,lv_nil];simp⟩
theorem drop_one (L:List Nat) (a b:Nat) (h:b=a+1):L.drop b=(L.drop a).drop 1:=by rw [List.drop_drop,h]
theorem take_set_low {L:List Nat} {i j x:Nat} (h:i≤j):(L.set j x).take i=L.take i:=List.take_set_of_le h
theorem TakeK.step {p q L:List Nat} {n i k c b x y c' b' m:Nat} (h:TakeK p q n i k c b L) (hx:L[i+k]?=some x) (hm:lv (q.take (k+1))=lv (q.take k)+pB k*m) (hc:c'=c+n*m) (hcl:c' / 1000000000<1000000000) (hy:y<1000000000) (hb:b'≤1)
  (he:y+c'%1000000000+b=x+b'*1000000000):TakeK p q n i (k+1) (c' / 1000000000) b' (L.set (i+k) y):=by
 refine ⟨by rw [List.length_set];exact h.len,h.pcs.set _ _ hy,hcl,hb,by rw [take_set_low (by omega)];exact h.low,?_,?_⟩
 ·rw [List.drop_set_of_lt (by omega),drop_one L (i+k) (i+(k+1)) (by omega),drop_one p (i+k) (i+(k+1)) (by omega),h.rest]
 ·have:=take_round (P:=pB (i+k)) (P':=pB (i+k+1)) (p:=lv L) (q:=pB i*lv (q.take k)) (n:=n) (c:=c) (b:=b) (x:=x) (y:=y) (qk:=m) (old:=lv p) (pB_succ _) h.val c' b' (lv (L.set (i+k) y)) (pB i*lv (q.take (k+1))) hc he (lv_set y hx) (by rw [hm,pB_add];grind)
  exact this
theorem TakeK.done {p q L:List Nat} {n i c b:Nat} (h:TakeK p q n i (q.length+1) c b L) (hc:c=0):TakeR p q n i L b:=by
 subst hc
 have hv:=h.val
 rw [List.take_of_length_le (by omega),Nat.zero_add] at hv
 exact ⟨h.len,h.pcs,h.low,by rw [show i+q.length+1=i+(q.length+1) by omega];exact h.rest,hv,h.le⟩
structure BackK (p q:List Nat) (i k c:Nat) (L:List Nat):Prop where
 len:L.length=p.length
 pcs:Pcs L
 lt:c≤2
 low:L.take i=p.take i
 rest:L.drop (i+k)=p.drop (i+k)
 val:lv L+c*pB (i+k)=lv p+pB i*lv (q.take k)
theorem BackK.start {p q:List Nat} {i:Nat} (hp:Pcs p):BackK p q i 0 0 p :=
 ⟨rfl,hp,by omega,rfl,rfl,by rw [List.take_zero,lv_nil];simp⟩
theorem BackK.step {p q L:List Nat} {i k c x y c' m:Nat} (h:BackK p q i k c L) (hx:L[i+k]?=some x) (hm:lv (q.take (k+1))=lv (q.take k)+pB k*m) (hm9:m<1000000000) (hc:c'=c+x+m) (hy:y=c'%1000000000) :
  BackK p q i (k+1) (c' / 1000000000) (L.set (i+k) y):=by
 have hxb:=h.pcs.get hx
 have hlt:=h.lt
 refine ⟨by rw [List.length_set];exact h.len,h.pcs.set _ _ (by omega),by omega,by rw [take_set_low (by omega)];exact h.low,?_,?_⟩
 ·rw [List.drop_set_of_lt (by omega),drop_one L (i+k) (i+(k+1)) (by omega),drop_one p (i+k) (i+(k+1)) (by omega),h.rest]
 ·have:=times_round (P:=pB (i+k)) (P':=pB (i+k+1)) (c:=c) (x:=x) (y:=y) (ab:=m) (acc2:=pB i*lv (q.take (k+1))) (pB_succ _) h.val hc hy (lv_set y hx) (by rw [hm,pB_add];grind)
  exact this
theorem BackK.done {p q L:List Nat} {i c:Nat} (h:BackK p q i (q.length+1) c L):BackR p q i L c:=by
 have hv:=h.val
 rw [List.take_of_length_le (by omega)] at hv
 exact ⟨h.len,h.pcs,h.low,by rw [show i+q.length+1=i+(q.length+1) by omega];exact h.rest,hv⟩
theorem take_beyond (q:List Nat):lv (q.take (q.length+1))=lv (q.take q.length)+pB q.length*0:=by
 rw [List.take_of_length_le (by omega),List.take_length];simp
set_option maxRecDepth 100000 in
set_option maxHeartbeats 2000000 in
theorem take_any (B:Nat) (p q:List Nat) (n i g cap:Nat) (v:Value) (w:World) (h:OwnP B w (.slice (some ⟨g,0,none⟩) p.length cap) p) (hq:∀ w',GrownS (·=g) w w'→PcsAt w' v q) (hpp:Pcs p) (hqp:Pcs q) (hn:n<1000000000) (hi:i+q.length<p.length) (hlp:p.length≤20000000000) :
  Calls Tryz.prog 173 #[.slice (some ⟨g,0,none⟩) p.length cap,v,.int .u64 n,.int .i64 i] w fun e w'=>∃ L b,e=.returned (.bool (decide (0<b)))∧OwnP B w' (.slice (some ⟨g,0,none⟩) p.length cap) L∧TakeR p q n i L b∧GrownS (·=g) w w':=by
 obtain ⟨a,ca,rfl,hla,hca,-⟩:=(hq w (GrownS.refl _ _)).open
 have HQ:Hid (∀ w',GrownS (·=g) w w'→∀ (k:Nat) (x:Nat),q[k]?=some x→∃ b off,a=some ⟨b,off,none⟩∧w'.cell? ⟨b,off+k,none⟩=some (.int .u64 x)):=by
  intro w' hg k x hx
  obtain ⟨a',ca',e,-,-,hc⟩:=(hq w' hg).open
  simp only [Value.slice.injEq] at e
  obtain ⟨rfl,-,rfl⟩:=e
  obtain ⟨b,off,e,-,hcell⟩:=hc (by rintro rfl;simp at hx)
  exact ⟨b,off,e,hcell k x hx⟩
 have HO:=Lib.hid h
 have HQP:=Lib.hid hqp
 have HK0:=Lib.hid (TakeK.start (q:=q) (n:=n) (i:=i) hpp)
 obtain ⟨n',hn'⟩:∃ n',n'=p.length:=⟨_,rfl⟩
 rw [← hn'] at HO hi hlp ⊢
 have HN:=Lib.hid hn'
 clear h hq hpp hqp hn'
 go_enter Tryz.func173,Tryz.ntmps173
 go_wp2_with fail
 go_loopw [9,10,11] (fun bb c t wr=>∃ (k cc b:Nat) (L:List Nat),k≤q.length+1∧t=.int .i64 k∧c=.int .u64 cc∧bb=.int .i64 b∧cc<1000000000∧b≤1∧Hid (GrownS (·=g) w wr)∧Hid (OwnP B wr (.slice (some ⟨g,0,none⟩) n' cap) L)∧Hid (TakeK p q n i k cc b L)∧Hid (k=q.length+1→cc=0)) (fun _ _ t _=>q.length+1-(intOf t).toNat)
 case atStart=>exact ⟨0,0,0,p,by omega,rfl,rfl,rfl,by omega,by omega,GrownS.refl _ _,HO.out,HK0.out,fun _=>rfl⟩
 case round =>
  obtain ⟨k,cc,b,L,hk,rfl,rfl,rfl,hcc,hb,HG,HOL,HK,HZ⟩:=hrel
  obtain ⟨wo,rfl⟩:∃ wo:World,wo=wr:=⟨_,rfl⟩
  clear HO HK0
  by_cases hlt:k≤q.length
  ·obtain ⟨x,hx⟩:∃ x,L[i+k]?=some x:=⟨_,List.getElem?_eq_getElem (by rw [HK.out.len,← HN.out];omega)⟩
   obtain ⟨g1,f1⟩:=HOL.out.get hx
   have hxb:=HK.out.pcs.get hx
   have HX:=Lib.hid hx
   have hik:i+k<n':=by omega
   clear hx
   by_cases hkl:k<q.length
   ·obtain ⟨z,hz⟩:∃ z,q[k]?=some z:=⟨_,List.getElem?_eq_getElem hkl⟩
    obtain ⟨bq,oq,rfl,g2⟩:=HQ.out wo HG.out k z hz
    have hzb:=HQP.out.get hz
    have hm:=mul_piece hn hzb
    obtain ⟨m,hmm⟩:∃ m,n*z=m:=⟨_,rfl⟩
    rw [hmm] at hm
    have hmi:(n:Int)*(z:Int)=(m:Int):=by rw [← hmm];exact (Int.natCast_mul _ _).symm
    obtain ⟨c',hc'⟩:∃ c',c'=cc+m:=⟨_,rfl⟩
    have hci:(cc:Int)+(m:Int)=(c':Int):=by omega
    obtain ⟨r,hr⟩:∃ r,r=c'%1000000000:=⟨_,rfl⟩
    obtain ⟨d,hd⟩:∃ d,d=c' / 1000000000:=⟨_,rfl⟩
    have hri:(c':Int)%1000000000=(r:Int):=by omega
    have hdi:(c':Int) / 1000000000=(d:Int):=by omega
    have hdb:d<1000000000:=by omega
    have hcb2:c'<1000000000000000000:=by omega
    have hrb:r<1000000000:=by omega
    have hkz:¬ k+1=q.length+1:=by omega
    have HST:Hid (∀ y b',y<1000000000→b'≤1→y+r+b=x+b'*1000000000→TakeK p q n i (k+1) d b' (L.set (i+k) y)):=fun y b' hy hb' he=>by
     rw [hd];exact HK.out.step HX.out (lv_take_succ hz) (by rw [hc',hmm]) (by omega) hy hb' (by rw [← hr];exact he)
    clear hz hmm hc' hr hd
    by_cases hneg:(x:Int)-(r:Int)-(b:Int)<0
    ·obtain ⟨y,hy⟩:∃ y:Nat,(x:Int)-(r:Int)-(b:Int)+1000000000=(y:Int):=⟨((x:Int)-(r:Int)-(b:Int)+1000000000).toNat,by omega⟩
     have hyb:y<1000000000:=by omega
     have HS2:=Lib.hid (HST.out y 1 hyb (by omega) (by omega))
     have HO2:=Lib.hid (HOL.out.set (i+k) y)
     have HG2:=Lib.hid (HG.out.store rfl (i+k) (.int .u64 y))
     go_wp2_with fail
     go_roundw
     case rel=>exact ⟨k+1,d,1,_,by omega,by go_num,rfl,rfl,hdb,by omega,HG2.out,HO2.out,HS2.out,fun e=>absurd e hkz⟩
     case measure=>simp [intOf];omega
    ·obtain ⟨y,hy⟩:∃ y:Nat,(x:Int)-(r:Int)-(b:Int)=(y:Int):=⟨((x:Int)-(r:Int)-(b:Int)).toNat,by omega⟩
     have hyb:y<1000000000:=by omega
     have HS2:=Lib.hid (HST.out y 0 hyb (by omega) (by omega))
     have HO2:=Lib.hid (HOL.out.set (i+k) y)
     have HG2:=Lib.hid (HG.out.store rfl (i+k) (.int .u64 y))
     go_wp2_with fail
     go_roundw
     case rel=>exact ⟨k+1,d,0,_,by omega,by go_num,rfl,rfl,hdb,by omega,HG2.out,HO2.out,HS2.out,fun e=>absurd e hkz⟩
     case measure=>simp [intOf];omega
   ·obtain rfl:q.length=k:=by omega
    have hri:(cc:Int)%1000000000=(cc:Int):=by omega
    have hdi:(cc:Int) / 1000000000=0:=by omega
    have HST:Hid (∀ y b',y<1000000000→b'≤1→y+cc+b=x+b'*1000000000→TakeK p q n i (q.length+1) 0 b' (L.set (i+q.length) y)):=fun y b' hy hb' he=>by
     have:=HK.out.step HX.out (take_beyond q) (c':=cc) (by simp) (by omega) hy hb' (by rw [Nat.mod_eq_of_lt hcc];exact he)
     rw [Nat.div_eq_of_lt hcc] at this
     exact this
    by_cases hneg:(x:Int)-(cc:Int)-(b:Int)<0
    ·obtain ⟨y,hy⟩:∃ y:Nat,(x:Int)-(cc:Int)-(b:Int)+1000000000=(y:Int):=⟨((x:Int)-(cc:Int)-(b:Int)+1000000000).toNat,by omega⟩
     have hyb:y<1000000000:=by omega
     have HS2:=Lib.hid (HST.out y 1 hyb (by omega) (by omega))
     have HO2:=Lib.hid (HOL.out.set (i+q.length) y)
     have HG2:=Lib.hid (HG.out.store rfl (i+q.length) (.int .u64 y))
     go_wp2_with fail
     go_roundw
     case rel=>exact ⟨q.length+1,0,1,_,by omega,by go_num,rfl,rfl,by omega,by omega,HG2.out,HO2.out,HS2.out,fun _=>rfl⟩
     case measure=>simp [intOf]
    ·obtain ⟨y,hy⟩:∃ y:Nat,(x:Int)-(cc:Int)-(b:Int)=(y:Int):=⟨((x:Int)-(cc:Int)-(b:Int)).toNat,by omega⟩
     have hyb:y<1000000000:=by omega
     have HS2:=Lib.hid (HST.out y 0 hyb (by omega) (by omega))
     have HO2:=Lib.hid (HOL.out.set (i+q.length) y)
     have HG2:=Lib.hid (HG.out.store rfl (i+q.length) (.int .u64 y))
     go_wp2_with fail
     go_roundw
     case rel=>exact ⟨q.length+1,0,0,_,by omega,by go_num,rfl,rfl,by omega,by omega,HG2.out,HO2.out,HS2.out,fun _=>rfl⟩
     case measure=>simp [intOf]
  ·have HK2:Hid (TakeR p q n i L b):=by
    obtain rfl:k=q.length+1:=by omega
    exact HK.out.done (HZ.out rfl)
   go_wp2_with fail
   go_ret
   exact ⟨L,b,by first | rfl | simp,HOL.out,HK2.out,HG.out⟩
set_option maxRecDepth 100000 in
set_option maxHeartbeats 2000000 in
theorem back_any (B:Nat) (p q:List Nat) (i g cap:Nat) (v:Value) (w:World) (h:OwnP B w (.slice (some ⟨g,0,none⟩) p.length cap) p) (hq:∀ w',GrownS (·=g) w w'→PcsAt w' v q) (hpp:Pcs p) (hqp:Pcs q) (hi:i+q.length<p.length) (hlp:p.length≤20000000000) :
  Calls Tryz.prog 170 #[.slice (some ⟨g,0,none⟩) p.length cap,v,.int .i64 i] w fun e w'=>∃ L c,e=.returned (.tuple #[])∧OwnP B w' (.slice (some ⟨g,0,none⟩) p.length cap) L∧BackR p q i L c∧GrownS (·=g) w w':=by
 obtain ⟨a,ca,rfl,hla,hca,-⟩:=(hq w (GrownS.refl _ _)).open
 have HQ:Hid (∀ w',GrownS (·=g) w w'→∀ (k:Nat) (x:Nat),q[k]?=some x→∃ b off,a=some ⟨b,off,none⟩∧w'.cell? ⟨b,off+k,none⟩=some (.int .u64 x)):=by
  intro w' hg k x hx
  obtain ⟨a',ca',e,-,-,hc⟩:=(hq w' hg).open
  simp only [Value.slice.injEq] at e
  obtain ⟨rfl,-,rfl⟩:=e
  obtain ⟨b,off,e,-,hcell⟩:=hc (by rintro rfl;simp at hx)
  exact ⟨b,off,e,hcell k x hx⟩
 have HO:=Lib.hid h
 have HQP:=Lib.hid hqp
 have HK0:=Lib.hid (BackK.start (q:=q) (i:=i) hpp)
 obtain ⟨n',hn'⟩:∃ n',n'=p.length:=⟨_,rfl⟩
 rw [← hn'] at HO hi hlp ⊢
 have HN:=Lib.hid hn'
 clear h hq hpp hqp hn'
 go_enter Tryz.func170,Tryz.ntmps170
 go_wp2_with fail
 go_loopw [6,7] (fun c t wr=>∃ (k cc:Nat) (L:List Nat),k≤q.length+1∧t=.int .i64 k∧c=.int .u64 cc∧cc≤2∧Hid (GrownS (·=g) w wr)∧Hid (OwnP B wr (.slice (some ⟨g,0,none⟩) n' cap) L)∧Hid (BackK p q i k cc L)) (fun _ t _=>q.length+1-(intOf t).toNat)
 case atStart=>exact ⟨0,0,p,by omega,rfl,rfl,by omega,GrownS.refl _ _,HO.out,HK0.out⟩
 case round =>
  obtain ⟨k,cc,L,hk,rfl,rfl,hcc,HG,HOL,HK⟩:=hrel
  obtain ⟨wo,rfl⟩:∃ wo:World,wo=wr:=⟨_,rfl⟩
  clear HO HK0
  by_cases hlt:k≤q.length
  ·obtain ⟨x,hx⟩:∃ x,L[i+k]?=some x:=⟨_,List.getElem?_eq_getElem (by rw [HK.out.len,← HN.out];omega)⟩
   obtain ⟨g1,f1⟩:=HOL.out.get hx
   have hxb:=HK.out.pcs.get hx
   have HX:=Lib.hid hx
   have hik:i+k<n':=by omega
   clear hx
   by_cases hkl:k<q.length
   ·obtain ⟨z,hz⟩:∃ z,q[k]?=some z:=⟨_,List.getElem?_eq_getElem hkl⟩
    obtain ⟨bq,oq,rfl,g2⟩:=HQ.out wo HG.out k z hz
    have hzb:=HQP.out.get hz
    obtain ⟨c',hc'⟩:∃ c',c'=cc+x+z:=⟨_,rfl⟩
    have hci:(cc:Int)+(x:Int)+(z:Int)=(c':Int):=by omega
    obtain ⟨r,hr⟩:∃ r,r=c'%1000000000:=⟨_,rfl⟩
    obtain ⟨d,hd⟩:∃ d,d=c' / 1000000000:=⟨_,rfl⟩
    have hri:(c':Int)%1000000000=(r:Int):=by omega
    have hdi:(c':Int) / 1000000000=(d:Int):=by omega
    have hdb:d≤2:=by omega
    have HS2:Hid (BackK p q i (k+1) d (L.set (i+k) r)):=by
     unfold Hid;rw [hd];exact HK.out.step HX.out (lv_take_succ hz) hzb hc' hr
    have HO2:=Lib.hid (HOL.out.set (i+k) r)
    have HG2:=Lib.hid (HG.out.store rfl (i+k) (.int .u64 r))
    clear hz hc' hr hd
    go_wp2_with fail
    go_roundw
    case rel=>exact ⟨k+1,d,_,by omega,by go_num,rfl,hdb,HG2.out,HO2.out,HS2.out⟩
    case measure=>simp [intOf];omega
   ·obtain rfl:q.length=k:=by omega
    obtain ⟨c',hc'⟩:∃ c',c'=cc+x:=⟨_,rfl⟩
    have hci:(cc:Int)+(x:Int)=(c':Int):=by omega
    obtain ⟨r,hr⟩:∃ r,r=c'%1000000000:=⟨_,rfl⟩
    obtain ⟨d,hd⟩:∃ d,d=c' / 1000000000:=⟨_,rfl⟩
    have hri:(c':Int)%1000000000=(r:Int):=by omega
    have hdi:(c':Int) / 1000000000=(d:Int):=by omega
    have hdb:d≤2:=by omega
    have HS2:Hid (BackK p q i (q.length+1) d (L.set (i+q.length) r)):=by
     unfold Hid;rw [hd];exact HK.out.step HX.out (take_beyond q) (by omega) (by omega) hr
    have HO2:=Lib.hid (HOL.out.set (i+q.length) r)
    have HG2:=Lib.hid (HG.out.store rfl (i+q.length) (.int .u64 r))
    clear hc' hr hd
    go_wp2_with fail
    go_roundw
    case rel=>exact ⟨q.length+1,d,_,by omega,by go_num,rfl,hdb,HG2.out,HO2.out,HS2.out⟩
    case measure=>simp [intOf]
  ·have HK2:Hid (BackR p q i L cc):=by
    obtain rfl:k=q.length+1:=by omega
    exact HK.out.done
   go_wp2_with fail
   refine bodyPost_end (results_none rfl _ _ _) rfl ⟨L,cc,rfl,HOL.out,HK2.out,HG.out⟩
theorem GrownS.belowE {S:Nat→Prop} {w w':World} {B:Nat} (h:GrownS S w w') (hS:∀ k,S k→B≤k) (hB:B≤w.heap.size):Below B w w' :=
 ⟨h.os,h.tape,h.output,h.size,fun k hk=>h.block k (by omega) (fun hs=>by have:=hS k hs;omega)⟩
theorem OwnP.grownS {S:Nat→Prop} {B:Nat} {w w':World} {g n cap:Nat} {l:List Nat} (h:OwnP B w (.slice (some ⟨g,0,none⟩) n cap) l) (hg:GrownS S w w') (hS:¬ S g):OwnP B w' (.slice (some ⟨g,0,none⟩) n cap) l:=by
 refine ⟨h.1,?_⟩
 rcases h.2 with ⟨e,_⟩ | ⟨g',cap',cur,e,hb,hgg,rest⟩
 ·cases e
 ·simp only [Value.slice.injEq,Option.some.injEq,Addr.mk.injEq] at e
  obtain ⟨⟨rfl,-,-⟩,-,rfl⟩:=e
  exact .inr ⟨g,cap,cur,by rw [h.len],hb,(hg.block g (Array.getElem?_eq_some_iff.1 hgg).1 hS).trans hgg,rest⟩
structure DivI (N n bv V k:Nat) (A O:List Nat):Prop where
 la:A.length=N
 pa:Pcs A
 lo:O.length=N-n
 po:Pcs O
 lt:lv (A.drop k)<bv
 val:lv A+bv*(pB k*lv (O.drop k))=V
theorem DivI.start {A:List Nat} {N n bv V:Nat} (hA:Pcs A) (hl:A.length=N) (hn:n≤N) (hn1:1≤n) (hz:A[N-1]?=some 0) (hb:pB (n-1)≤bv) (hV:lv A=V):DivI N n bv V (N-n) A (List.replicate (N-n) 0):=by
 refine ⟨hl,hA,by simp,Pcs.zeros _,?_,?_⟩
 ·have h1:(A.drop (N-n))[n-1]?=some 0:=by rw [List.getElem?_drop,show N-n+(n-1)=N-1 by omega];exact hz
  have hd:(A.drop (N-n)).drop (n-1+1)=[]:=List.drop_eq_nil_of_le (by rw [List.length_drop];omega)
  rw [lv_split (A.drop (N-n)) (n-1) (by rw [List.length_drop];omega),lv_drop_succ h1,hd,lv_nil]
  simp only [Nat.mul_zero,Nat.add_zero]
  have:=lv_lt ((hA.drop (N-n)).take (n-1))
  rw [List.length_take,List.length_drop,Nat.min_eq_left (by omega)] at this
  omega
 ·rw [List.drop_eq_nil_of_le (by simp),lv_nil,Nat.mul_zero,Nat.mul_zero,Nat.add_zero,hV]
structure KnuthR (W bv t s high a2:Nat):Prop where
 hb:∃ L bl,bv=(t*1000000000+s)*L+bl∧bl<L∧∃ wl,W=(high*1000000000+a2)*L+wl∧wl<L
 ht:0<t
 hs:s<1000000000
 ha2:a2<1000000000
 hbv:0<bv
 hW:W<1000000000*bv
theorem DivI.knuth {A O b:List Nat} {N n m bv V j t s a0 a1 a2:Nat} (h:DivI N n bv V (j+1) A O) (hb:Can b) (hbl:b.length=n) (hnm:n=m+2) (hbv:lv b=bv) (hj:j+n<N) (ht:b[m+1]?=some t) (hs:b[m]?=some s)
  (h0:A[j+n]?=some a0) (h1:A[j+n-1]?=some a1) (h2:A[j+n-2]?=some a2):KnuthR (lv (A.drop j)) bv t s (a0*1000000000+a1) a2:=by
 subst hnm
 have ht0:t≠0:=hb.2 t (by rw [hbl];exact ht)
 have hbn:bv<pB (m+2):=by rw [← hbv,← hbl];exact lv_lt hb.1
 have hz:=high_zero h.lt hbn
 have e1:=top_two hbl ht hs
 have e2:=top_three (A:=A) (m:=m) (i:=j) (a0:=a0) (a1:=a1) (a2:=a2) (by rw [← h0];congr 1) (by rw [← h1];congr 1) (by rw [← h2];congr 1) (by rw [show j+m+3=j+(m+2)+1 by omega];exact hz)
 have l1:=lv_lt (hb.1.take m)
 rw [List.length_take,Nat.min_eq_left (by omega)] at l1
 have l2:=lv_lt ((h.pa.drop j).take m)
 rw [List.length_take,List.length_drop,Nat.min_eq_left (by have:=h.la;omega)] at l2
 have hb0:0<bv:=by have:=h.lt;omega
 refine ⟨⟨pB m,_,hbv▸e1,l1,_,e2,l2⟩,by omega,hb.1.get hs,h.pa.get h2,hb0,?_⟩
 have hx:A[j]?=some (A[j]'(by have:=h.la;omega)):=List.getElem?_eq_getElem _
 have hxb:=h.pa.get hx
 rw [lv_drop_succ hx]
 have:=h.lt
 omega
theorem DivI.no {A O A' b:List Nat} {N n bv V j g:Nat} (h:DivI N n bv V (j+1) A O) (hT:TakeR A b g j A' 0) (hbl:b.length=n) (hbv:lv b=bv) (hj:j+n<N) (hg:lv (A.drop j) / bv≤g) (hgb:g<1000000000):DivI N n bv V j A' (O.set j g):=by
 have hb0:0<bv:=by have:=h.lt;omega
 obtain ⟨d1,d2⟩:=div_no hT hbl hbv hb0 (by have:=h.la;omega) h.val hg
 refine ⟨hT.len.trans h.la,hT.pcs,by rw [List.length_set];exact h.lo,h.po.set _ _ hgb,d1,?_⟩
 rw [lv_drop_succ (k:=j) (x:=g) (by rw [List.getElem?_set,if_pos rfl,if_pos (by rw [h.lo];omega)]),List.drop_set_of_lt (by omega)]
 exact d2
theorem DivI.back {A O A' A'' b:List Nat} {N n bv V j g c:Nat} (h:DivI N n bv V (j+1) A O) (hT:TakeR A b g j A' 1) (hB:BackR A' b j A'' c) (hbl:b.length=n) (hbp:Pcs b) (hbv:lv b=bv) (hj:j+n<N) (hg:g≤lv (A.drop j) / bv+1) (hgb:g<1000000000):0<g∧DivI N n bv V j A'' (O.set j (g-1)):=by
 have hb0:0<bv:=by have:=h.lt;omega
 have hbn:bv<pB n:=by rw [← hbv,← hbl];exact lv_lt hbp
 obtain ⟨d0,d1,d2⟩:=div_back hT hB hbl hbv hb0 hbn (by have:=h.la;omega) h.lt h.val hg
 refine ⟨d0,hB.len.trans (hT.len.trans h.la),hB.pcs,by rw [List.length_set];exact h.lo,h.po.set _ _ (by omega),d1,?_⟩
 rw [lv_drop_succ (k:=j) (x:=g-1) (by rw [List.getElem?_set,if_pos rfl,if_pos (by rw [h.lo];omega)]),List.drop_set_of_lt (by omega)]
 exact d2
theorem take_pos {A A' b:List Nat} {g i:Nat} (h:TakeR A b g i A' 1) (hi:i+b.length<A.length):0<g:=by
 false_or_by_contra
 rename_i hn
 have hv:=h.val
 rw [show g=0 by omega,Nat.zero_mul,Nat.add_zero,Nat.one_mul] at hv
 have h1:=lv_split A' (i+b.length+1) (by rw [h.len];omega)
 have h2:=lv_split A (i+b.length+1) (by omega)
 have h3:=lv_lt (h.pcs.take (i+b.length+1))
 rw [List.length_take,h.len,Nat.min_eq_left (by omega)] at h3
 rw [h.high] at h1
 omega
structure Guess (W bv t high g r:Nat):Prop where
 ge:W / bv≤g
 eq:g*t+r=high
theorem Guess.start {W bv t s high a2:Nat} (h:KnuthR W bv t s high a2):Guess W bv t high (high / t) (high%t):=by
 obtain ⟨L,bl,e1,h1,wl,e2,h2⟩:=h.hb
 refine ⟨guess_ge e1 e2 h.ha2 h2 h.ht rfl,?_⟩
 rw [Nat.mul_comm];exact Nat.div_add_mod _ _
theorem Guess.less {W bv t s high a2 g r:Nat} (k:KnuthR W bv t s high a2) (h:Guess W bv t high g r) (hc:1000000000≤g∨r*1000000000+a2<g*s):Guess W bv t high (g-1) (r+t)∧0<g:=by
 obtain ⟨L,bl,e1,h1,wl,e2,h2⟩:=k.hb
 obtain ⟨d1,d2⟩:=guess_less e1 e2 h2 k.hbv k.hW h.ge h.eq hc
 refine ⟨⟨d1,?_⟩,d2⟩
 have:=h.eq
 obtain ⟨g',rfl⟩:∃ g',g=g'+1:=⟨g-1,by omega⟩
 rw [Nat.add_sub_cancel]
 rw [Nat.add_mul,Nat.one_mul] at this
 omega
theorem Guess.done {W bv t s high a2 g r:Nat} (k:KnuthR W bv t s high a2) (h:Guess W bv t high g r) (hg:g<1000000000) (hc:1000000000≤r∨g*s≤r*1000000000+a2):g≤W / bv+1:=by
 obtain ⟨L,bl,e1,h1,wl,e2,h2⟩:=k.hb
 exact guess_end e1 e2 h1 k.ht k.hs h.eq hg hc
theorem quo_cast (t:Nat):(1000000000:Int) / ((t:Int)+1)=((1000000000 / (t+1):Nat):Int):=by
 rw [Int.natCast_ediv,Int.natCast_add];rfl
theorem factor_bd {t:Nat} (ht:t<1000000000):0<1000000000 / (t+1)∧1000000000 / (t+1)≤1000000000 :=
 ⟨Nat.div_pos (by omega) (by omega),Nat.div_le_self _ _⟩
set_option maxRecDepth 100000 in
set_option maxHeartbeats 8000000 in
theorem divide_any (p q:List Nat) (u v:Value) (w:World) (hu:PcsAt w u p) (hv:PcsAt w v q) (hp:Can p) (hq:Can q) (hq2:2≤q.length) (hqp:q.length≤p.length) (hlp:p.length≤4000000000) :
  Calls Tryz.prog 194 #[u,v] w fun e w'=>∃ r1 l1 r2 l2,e=.returned (.tuple #[r1,r2])∧Hid (OwnP w.heap.size w' r1 l1∧Can l1∧lv l1=lv p / lv q∧l1.length≤p.length+2)∧Hid (OwnP w.heap.size w' r2 l2∧Can l2∧lv l2=lv p%lv q∧l2.length≤p.length+2)∧Ext w w':=by
 obtain ⟨a,ca,rfl,hla,hca,hcu⟩:=hu.open
 obtain ⟨b,cb,rfl,hlb,hcb,hcv⟩:=hv.open
 obtain ⟨bq,oq,rfl,hbq,hcv'⟩:=hcv (by rintro rfl;simp at hq2)
 have HP:=Lib.hid hp;have HQ:=Lib.hid hq
 have HU:=Lib.hid hu;have HV:=Lib.hid hv
 obtain ⟨i0,hi,hz0,hz1,hz2⟩:=info_parts infoU64
 have HI:=Lib.hid hi;have HZ0:=Lib.hid hz0;have HZ1:=Lib.hid hz1;have HZ2:=Lib.hid hz2
 obtain ⟨t,ht⟩:∃ t,q[q.length-1]?=some t:=⟨_,List.getElem?_eq_getElem (by omega)⟩
 have gt:=hcv' _ t ht
 have htb:=hq.1.get ht
 have ht0:0<t:=by have:=hq.2 t ht;omega
 have i1:(1:Int)≤(q.length:Int):=by omega
 have i2:1≤q.length:=by omega
 obtain ⟨f,hf⟩:∃ f,f=1000000000 / (t+1):=⟨_,rfl⟩
 have hf0:0<f:=by rw [hf];exact (factor_bd htb).1
 have hfb:f<1000000000:=by
  rw [hf]
  have:1000000000 / (t+1)≤1000000000 / 2:=Nat.div_le_div_left (by omega) (by omega)
  omega
 have hfi:(1000000000:Int) / ((t:Int)+1)=(f:Int):=by rw [hf];exact quo_cast t
 have hnz:((t:Int)+1 == 0)=false:=by rw [beq_eq_false_iff_ne];omega
 have HS1:=Lib.hid (scaled_any p f _ w hu hp.1 hfb hf0 (by omega))
 clear hi hz0 hz1 hz2 hu hv hcu hcv hp hq hcv' ht hf
 go_enter Tryz.func194,Tryz.ntmps194
 have HS2:Hid (∀ W,Ext w W→Calls Tryz.prog 212 #[.slice (some ⟨bq,oq,none⟩) q.length cb,.int .u64 f] W fun e w'=>∃ r l,e=.returned r∧Hid (OwnP W.heap.size w' r l∧Can l∧lv l=lv q*f∧l.length≤q.length+1)∧Ext W w'):=fun W hE=>scaled_any q f _ W (HV.out.ext hE) HQ.out.1 hfb hf0 (by omega)
 go_wp2_with fail
 refine HS1.out.mono ?_
 rintro e w1 ⟨r1,l1,rfl,hr1,hE1⟩
 have HR1:=Lib.hid hr1.out
 have HB1:=Lib.hid hr1.out.1.build
 have HE1:=Lib.hid hE1
 have hsz1:w.heap.size≤w1.heap.size:=hE1.size
 have HLL:Hid (l1.length<100000000000):=by have:=HR1.out.2.2.2;unfold Hid;omega
 clear hr1 hE1 HS1
 go_wp2_with (at_builtin;go_must (refine wpList_append_buildL _ rfl _ _ 209 rfl w.heap.size 204 (.int .u64 0) 1 8 Tryz.underlying209 infoU64 rfl (by decide) r1 pcR l1 0 #[.int .u64 0] 204 rfl HB1.out rfl rfl ?_ (fun _ _=>rfl) HLL.out (by decide) hsz1 ?_))
 all_goals first | (simp [Value.oneCell'];done) | skip
 intro v2 w2 hB2 hg2 hb2 hs2 _
 have HE2:Hid (Ext w w2):=Below.trans HE1.out hb2
 have HB2:=Lib.hid hB2
 have hlt2:=HB2.out.lt
 clear hB2 hg2 hb2 hs2 HB1 HLL
 go_wp2_with fail
 refine (HS2.out _ HE2.out).mono ?_
 rintro e w3 ⟨rb,lb,rfl,hrb,hE3⟩
 have HRB:=Lib.hid hrb.out
 have HE3:=Lib.hid (Ext.trans HE2.out hE3)
 have HB3:=Lib.hid (Build.ext HB2.out hE3)
 have hlb0:lb≠[]:=by
  have h0:=HRB.out.2.1.zero
  intro e
  have e1:=h0.2 e
  have e2:=HRB.out.2.2.1
  rw [e1] at e2
  have hq0:0<lv q:=by
   have:=HQ.out.ge (by rintro rfl;simp at hq2)
   have:=pB_pos (q.length-1)
   omega
  have:=Nat.mul_pos hq0 hf0
  omega
 obtain ⟨gb,cb',hrbs,hgb1,hgb2,hgb3,hgb4⟩:=owns_shape HRB.out.1 (List.length_pos_iff.2 hlb0)
 subst hrbs
 unfold maxLen at hgb4
 have HBL:Hid (2≤lb.length∧lb.length≤q.length+1):=by
  refine ⟨?_,HRB.out.2.2.2⟩
  have h1:=Can.length_le HQ.out HRB.out.2.1 (by rw [HRB.out.2.2.1];exact Nat.le_mul_of_pos_right _ hf0)
  omega
 have HSF:Hid (Safe w3 v2.ownBlock fun W=>OwnP w2.heap.size W (.slice (some ⟨gb,0,none⟩) lb.length cb') lb):=by
  refine Safe.owns HRB.out.1 (.inr ?_)
  intro e
  have:=(hlt2 gb e.symm).2
  omega
 obtain ⟨us,-,-,hown3,-⟩:=id HB3.out
 obtain ⟨g2,c2,hv2,hg21,hg22,hg23,hg24⟩:=owns_shape hown3 (by rw [List.length_append];simp)
 subst hv2
 have hg2w:=(hlt2 g2 rfl).2
 have hl2:(l1++[0]).length=l1.length+1:=by rw [List.length_append];rfl
 rw [hl2] at HB3 HSF hg23 ⊢
 have HLL:Hid (p.length≤l1.length∧l1.length≤p.length+1):=⟨Can.length_le HP.out HR1.out.2.1 (by rw [HR1.out.2.2.1];exact Nat.le_mul_of_pos_right _ hf0),HR1.out.2.2.2⟩
 obtain ⟨N,hN⟩:∃ N,N=l1.length+1:=⟨_,rfl⟩
 rw [← hN] at HB3 HSF hg23 ⊢
 have HN:=Lib.hid hN
 have hNp:p.length<N:=by have:=HLL.out.1;omega
 have hNp2:N≤p.length+2:=by have:=HLL.out.2;omega
 obtain ⟨n,hn⟩:∃ n,n=lb.length:=⟨_,rfl⟩
 rw [← hn] at HSF hgb3 ⊢
 have HNB:=Lib.hid hn
 have hn2:2≤n:=by have:=HBL.out.1;omega
 have hnN:n≤N:=by have:=HBL.out.2;omega
 have HO3:=Lib.hid (Build.ownP HB3.out)
 clear hown3 us hrb hE3 HS2 HB2 hlt2 hlb0 hl2 hN hn HBL HLL HB3 HE1 HE2
 unfold maxLen at hg24
 go_wp2_with fail
 go_loopw [7] (fun av wr=>av=.slice (some ⟨g2,0,none⟩) N c2∧Hid (wr=w3)) (fun av _=>0)
 case atStart=>exact ⟨rfl,rfl⟩
 case round =>
  obtain ⟨rfl,HW⟩:=hrel
  obtain rfl:=HW.out
  have hlt:¬ N≤p.length:=by omega
  obtain ⟨M,hM⟩:∃ M,M=N-n:=⟨_,rfl⟩
  have hMi:(N:Int)-(n:Int)=(M:Int):=by omega
  have hMb:M≤4000000002:=by omega
  have HM:=Lib.hid hM
  clear hM HW
  obtain ⟨w3,rfl⟩:∃ w3:World,w3=wr:=⟨_,rfl⟩
  go_wp2_with (at_make;refine wpList_make_full _ rfl _ _ 209 rfl w3.heap.size 204 i0 (.int .u64 0) 1 Tryz.underlying209 HI.out HZ0.out HZ1.out _ _ _ _ M rfl rfl rfl rfl ?c1 ?c2 ?c3 ?_)
  case c1=>rw [HZ2.out];omega
  case c2=>unfold maxLen;omega
  case c3=>exact Nat.le_refl _
  intro w4 hown hgrow
  have hE4:=ext_grown hgrow
  have HOO:=Lib.hid (OwnP.made hown)
  have HOA:=Lib.hid (HO3.out.ext hE4)
  have HE4:=Lib.hid (Ext.trans HE3.out hE4)
  have hgo:w3.heap.size<w4.heap.size:=(hown.lt w3.heap.size rfl).2
  have HBQ:Hid (∀ w',GrownS (fun k=>k=g2∨k=w3.heap.size) w4 w'→OwnP w2.heap.size w' (.slice (some ⟨gb,0,none⟩) n cb') lb):=by
   intro w' hg
   have h:=(HRB.out.1.ext hE4)
   rw [← HNB.out] at h
   exact h.grownS hg (by rintro (h1 | h1) <;> omega)
  have HD0:Hid (DivI N n (lv lb) (lv p*f) M (l1++[0]) (List.replicate M 0)):=by
   unfold Hid
   rw [HM.out]
   refine DivI.start (HR1.out.2.1.1.append (Pcs.cons (by omega) Pcs.nil)) (by rw [List.length_append,HN.out];rfl) hnN (by omega) ?_ ?_ ?_
   ·rw [HN.out];simp
   ·rw [HNB.out];exact HRB.out.2.1.ge (by rintro e;rw [e] at HNB;have:=HNB.out;simp at this;omega)
   ·rw [lv_append,HR1.out.2.2.1,lv_cons,lv_nil];simp
  clear hown hgrow hE4 HO3 HSF
  have hg2n:w.heap.size≤g2:=hg21
  have hnn:n≤N:=hnN
  go_wp2_with fail
  go_loopw [11] (fun i wr=>∃ (y:Int) (A O:List Nat),i=.int .i64 y∧y<M∧-2<y∧Hid (GrownS (fun k=>k=g2∨k=w3.heap.size) w4 wr)∧Hid (OwnP w.heap.size wr (.slice (some ⟨g2,0,none⟩) N c2) A)∧Hid (OwnP w3.heap.size wr (.slice (some ⟨w3.heap.size,0,none⟩) M M) O)∧Hid (∃ k:Nat,y+1=k∧DivI N n (lv lb) (lv p*f) k A O)) (fun i _=>(intOf i+1).toNat)
  case atStart=>exact ⟨_,_,_,rfl,by omega,by omega,GrownS.refl _ _,HOA.out,HOO.out,⟨M,by omega,HD0.out⟩⟩
  case round =>
   obtain ⟨y,A,O,rfl,hy1,hy2,HG,HA,HO,HD⟩:=hrel
   obtain ⟨wo,rfl⟩:∃ wo:World,wo=wr:=⟨_,rfl⟩
   clear HD0 HOO HOA
   by_cases hy0:0≤y
   ·obtain ⟨j,rfl⟩:∃ j:Nat,y=j:=⟨y.toNat,by omega⟩
    have HDJ:Hid (DivI N n (lv lb) (lv p*f) (j+1) A O):=by
     obtain ⟨k,e,h⟩:=HD.out
     have:k=j+1:=by omega
     rw [this] at h;exact h
    have hjn:j+n<N:=by have:=HM.out;omega
    obtain ⟨e0,he0⟩:∃ e0,e0=j+n:=⟨_,rfl⟩
    obtain ⟨e1,he1⟩:∃ e1,e1=j+n-1:=⟨_,rfl⟩
    obtain ⟨e2,he2⟩:∃ e2,e2=j+n-2:=⟨_,rfl⟩
    obtain ⟨b1,hb1⟩:∃ b1,b1=n-1:=⟨_,rfl⟩
    obtain ⟨b2,hb2⟩:∃ b2,b2=n-2:=⟨_,rfl⟩
    obtain ⟨a0,ha0⟩:∃ a0,A[e0]?=some a0:=⟨_,List.getElem?_eq_getElem (by rw [HDJ.out.la];omega)⟩
    obtain ⟨a1,ha1⟩:∃ a1,A[e1]?=some a1:=⟨_,List.getElem?_eq_getElem (by rw [HDJ.out.la];omega)⟩
    obtain ⟨a2,ha2⟩:∃ a2,A[e2]?=some a2:=⟨_,List.getElem?_eq_getElem (by rw [HDJ.out.la];omega)⟩
    obtain ⟨tt,htt⟩:∃ tt,lb[b1]?=some tt:=⟨_,List.getElem?_eq_getElem (by have:=HNB.out;omega)⟩
    obtain ⟨ss,hss⟩:∃ ss,lb[b2]?=some ss:=⟨_,List.getElem?_eq_getElem (by have:=HNB.out;omega)⟩
    obtain ⟨z,hz⟩:∃ z,O[j]?=some z:=⟨_,List.getElem?_eq_getElem (by rw [HDJ.out.lo];omega)⟩
    have HKN:Hid (KnuthR (lv (A.drop j)) (lv lb) tt ss (a0*1000000000+a1) a2):=HDJ.out.knuth (m:=b2) HRB.out.2.1 HNB.out.symm (by omega) rfl hjn (by rw [show b2+1=b1 by omega];exact htt) hss (by rw [← he0];exact ha0) (by rw [← he1];exact ha1) (by rw [← he2];exact ha2)
    have c0:=(HA.out.get ha0).1
    have c1:=(HA.out.get ha1).1
    have c2':=(HA.out.get ha2).1
    have hbq:=HBQ.out _ HG.out
    have ct:=(hbq.get htt).1
    have cs:=(hbq.get hss).1
    have hi0:(j:Int)+(n:Int)=(e0:Int):=by omega
    have hi1:(e0:Int)-1=(e1:Int):=by omega
    have hi2:(e0:Int)-2=(e2:Int):=by omega
    have hi3:(n:Int)-1=(b1:Int):=by omega
    have hi4:(n:Int)-2=(b2:Int):=by omega
    have hk0:e0<N:=by omega
    have hk1:e1<N:=by omega
    have hk2:e2<N:=by omega
    have hk3:b1<n:=by omega
    have hk4:b2<n:=by omega
    have hp0:=HDJ.out.pa.get ha0
    have hp1:=HDJ.out.pa.get ha1
    have hp2:=HDJ.out.pa.get ha2
    have hpt:=HRB.out.2.1.1.get htt
    have hps:=HRB.out.2.1.1.get hss
    have htt0:=HKN.out.ht
    obtain ⟨hg,hhg⟩:∃ hg,hg=a0*1000000000+a1:=⟨_,rfl⟩
    rw [← hhg] at HKN
    have hhi:(a0:Int)*1000000000+(a1:Int)=(hg:Int):=by omega
    have hhb:hg<1000000000000000000:=by omega
    have HGS:=Lib.hid (Guess.start HKN.out)
    obtain ⟨gg,hgg⟩:∃ gg,gg=hg / tt:=⟨_,rfl⟩
    obtain ⟨rr,hrr⟩:∃ rr,rr=hg%tt:=⟨_,rfl⟩
    rw [← hgg,← hrr] at HGS
    have hgi:(hg:Int) / (tt:Int)=(gg:Int):=by rw [hgg];exact (Int.natCast_ediv _ _).symm
    have hri:(hg:Int)%(tt:Int)=(rr:Int):=by rw [hrr];exact (Int.natCast_emod _ _).symm
    have hggb:gg≤hg:=by rw [hgg];exact Nat.div_le_self _ _
    have hrrb:rr<tt:=by rw [hrr];exact Nat.mod_lt _ htt0
    have htz:((tt:Int) == 0)=false:=by rw [beq_eq_false_iff_ne];omega
    have htz2:¬ (tt:Int)=0:=by omega
    have HZ:=Lib.hid hz
    have HI0:Hid (e0=j+n∧e2=j+n-2∧b2=n-2):=⟨he0,he2,hb2⟩
    clear ha0 ha1 ha2 htt hss hbq he0 he1 he2 hb1 hb2 hhg hgg hrr hz
    go_wp2_with fail
    go_quiet (fail)
    go_wp2_with fail
    go_quiet (fail)
    go_wp2_with fail
    have HGB:Hid (∀ W,GrownS (fun k=>k=g2∨k=w3.heap.size) w4 W→PcsAt W (.slice (some ⟨gb,0,none⟩) n cb') lb):=by
     intro W hW
     have:=(HBQ.out W hW).at
     exact this
    go_loopw [13,14] (fun gv rv wr=>∃ g r:Nat,gv=.int .u64 g∧rv=.int .u64 r∧g≤hg∧r≤hg∧Hid (Guess (lv (A.drop j)) (lv lb) tt hg g r)∧Hid (Ext wo wr)) (fun gv _ _=>(intOf gv).toNat)
    case atStart=>exact ⟨gg,rr,rfl,by rw [hri],hggb,by have:=HGS.out.eq;omega,HGS.out,by first | exact Ext.drewN _ _ | exact Ext.draws (Ext.drewN _ _) _⟩
    case round =>
     obtain ⟨g,r,rfl,rfl,hgh,hrh,HGU,HEq⟩:=hrel
     obtain ⟨wq,rfl⟩:∃ wq:World,wq=wr:=⟨_,rfl⟩
     have d2:=HEq.out.cell c2'
     have dt:=HEq.out.cell ct
     have ds:=HEq.out.cell cs
     clear HGS hgi hri hggb hrrb c0 c1 c2' ct cs
     obtain ⟨x1,hx1⟩:∃ x1,x1=g*ss:=⟨_,rfl⟩
     have hx1i:(g:Int)*(ss:Int)=(x1:Int):=by rw [hx1];exact (Int.natCast_mul _ _).symm
     obtain ⟨x2,hx2⟩:∃ x2,x2=r*1000000000+a2:=⟨_,rfl⟩
     have hx2i:(r:Int)*1000000000+(a2:Int)=(x2:Int):=by omega
     have HX1:Hid (g<1000000000→x1<1000000000000000000):=by
      intro h
      have:=Nat.mul_le_mul (show g≤999999999 by omega) (show ss≤999999999 by omega)
      omega
     by_cases hgo:1000000000≤g∨(r<1000000000∧x2<x1)
     ·have HL:=Lib.hid (HGU.out.less HKN.out (by rw [← hx1,← hx2];omega))
      have hg0:0<g:=HL.out.2
      obtain ⟨g',hg'⟩:∃ g',g'=g-1:=⟨_,rfl⟩
      have hg'i:(g:Int)-1=(g':Int):=by omega
      have hg'b:g'<g:=by omega
      have HL2:Hid (Guess (lv (A.drop j)) (lv lb) tt hg g' (r+tt)):=by unfold Hid;rw [hg'];exact HL.out.1
      have hrt:r+tt≤hg:=by
       have:=HL2.out.eq
       omega
      clear HL hg'
      have hcs:1000000000≤g∨(g<1000000000∧r<1000000000∧x2<x1):=by omega
      clear hgo hx1 hx2
      rcases hcs with hb1 | ⟨hb1,hb2,hb3⟩
      ·have q1:decide ((1000000000:Int)≤(g:Int))=true:=decide_eq_true (by omega)
       have q2:decide (1000000000≤g)=true:=decide_eq_true hb1
       clear hx1i hx2i
       go_wp2_with fail
       go_quiet (fail)
       go_wp2_with fail
       go_roundw
       case rel=>exact ⟨g',r+tt,rfl,by first | rfl | go_num,by omega,hrt,HL2.out,Ext.draws HEq.out _⟩
       case measure=>simp [intOf];omega
      ·have q1:decide ((1000000000:Int)≤(g:Int))=false:=decide_eq_false (by omega)
       have q2:decide (1000000000≤g)=false:=decide_eq_false (by omega)
       have q3:decide ((r:Int)<(1000000000:Int))=true:=decide_eq_true (by omega)
       have q4:decide (r<1000000000)=true:=decide_eq_true hb2
       have q5:decide (x2<x1)=true:=decide_eq_true hb3
       have hx1b:=HX1.out hb1
       go_wp2_with fail
       go_quiet (fail)
       go_wp2_with fail
       go_roundw
       case rel=>exact ⟨g',r+tt,rfl,by first | rfl | go_num,by omega,hrt,HL2.out,Ext.draws HEq.out _⟩
       case measure=>simp [intOf];omega
     ·have hcs:(g<1000000000∧1000000000≤r)∨(g<1000000000∧r<1000000000∧x1≤x2):=by omega
      have hgb:g<1000000000:=by omega
      have HGE:=Lib.hid HGU.out.ge
      have HLE:Hid (g≤lv (A.drop j) / lv lb+1):=HGU.out.done HKN.out hgb (by rw [← hx1,← hx2];omega)
      have hx1b:=HX1.out hgb
      have hjl:j+lb.length<A.length:=by rw [HDJ.out.la,← HNB.out];exact hjn
      have HTK:Hid (∀ W,Ext wo W→Calls Tryz.prog 173 #[.slice (some ⟨g2,0,none⟩) N c2,.slice (some ⟨gb,0,none⟩) n cb',.int .u64 g,.int .i64 j] W fun e w'=>∃ L b,e=.returned (.bool (decide (0<b)))∧OwnP w.heap.size w' (.slice (some ⟨g2,0,none⟩) N c2) L∧TakeR A lb g j L b∧GrownS (·=g2) W w'):=by
       intro W hW
       have:=take_any w.heap.size A lb g j g2 c2 (.slice (some ⟨gb,0,none⟩) n cb') W (by rw [HDJ.out.la];exact HA.out.ext hW) (fun w' hg=>HGB.out w' ((HG.out.trans (hW.grownS _)).trans (hg.weak fun k _ hk=>.inl hk))) HDJ.out.pa HRB.out.2.1.1 hgb hjl (by rw [HDJ.out.la];omega)
       rw [HDJ.out.la] at this
       exact this
      have HBK:Hid (∀ W A',A'.length=N→Pcs A'→OwnP w.heap.size W (.slice (some ⟨g2,0,none⟩) N c2) A'→GrownS (fun k=>k=g2∨k=w3.heap.size) w4 W→Calls Tryz.prog 170 #[.slice (some ⟨g2,0,none⟩) N c2,.slice (some ⟨gb,0,none⟩) n cb',.int .i64 j] W fun e w'=>∃ L c,e=.returned (.tuple #[])∧OwnP w.heap.size w' (.slice (some ⟨g2,0,none⟩) N c2) L∧BackR A' lb j L c∧GrownS (·=g2) W w'):=by
       intro W A' hl hp' ho hW
       have:=back_any w.heap.size A' lb j g2 c2 (.slice (some ⟨gb,0,none⟩) n cb') W (by rw [hl];exact ho) (fun w' hg=>HGB.out w' (hW.trans (hg.weak fun k _ hk=>.inl hk))) hp' HRB.out.2.1.1 (by rw [hl,← HNB.out];exact hjn) (by rw [hl];omega)
       rw [hl] at this
       exact this
      clear hgo hx1 hx2 hjl
      rcases hcs with ⟨hb1,hb2⟩ | ⟨hb1,hb2,hb3⟩
      case' inl =>
       have q1:decide ((1000000000:Int)≤(g:Int))=false:=decide_eq_false (by omega)
       have q2:decide (1000000000≤g)=false:=decide_eq_false (by omega)
       have q3:decide ((r:Int)<(1000000000:Int))=false:=decide_eq_false (by omega)
       have q4:decide (r<1000000000)=false:=decide_eq_false (by omega)
       have q5:True:=trivial
      case' inr =>
       have q1:decide ((1000000000:Int)≤(g:Int))=false:=decide_eq_false (by omega)
       have q2:decide (1000000000≤g)=false:=decide_eq_false (by omega)
       have q3:decide ((r:Int)<(1000000000:Int))=true:=decide_eq_true (by omega)
       have q4:decide (r<1000000000)=true:=decide_eq_true (by omega)
       have q5:decide (x2<x1)=false:=decide_eq_false (by omega)
      all_goals
       go_wp2_with fail
       go_quiet (fail)
       go_wp2_with fail
       refine (HTK.out _ (Ext.draws HEq.out _)).mono ?_
       rintro e w6 ⟨A',bo,rfl,ho6,hT,hg6⟩
       have HT:=Lib.hid hT
       have HG6:=Lib.hid ((HG.out.trans ((Ext.draws HEq.out _).grownS _)).trans (hg6.weak fun k _ hk=>Or.inl hk))
       have hne1:¬ w3.heap.size=g2:=by omega
       have hne2:¬ g2=w3.heap.size:=by omega
       have HO6:=Lib.hid ((HO.out.ext (Ext.draws HEq.out _)).grownS hg6 hne1)
       have HA6:=Lib.hid ho6
       have HBO:Hid (bo≤1):=hT.le
       clear ho6 hT hg6 HTK d2 dt ds q1 q2 q3 q4 q5 hx1i hx2i
       match bo,HBO with
       | 0,_ =>
        have HD6:=Lib.hid (HDJ.out.no HT.out HNB.out.symm rfl hjn HGE.out hgb)
        obtain ⟨cz,fz⟩:=HO6.out.get HZ.out
        have HO7:=Lib.hid (HO6.out.set j g)
        have HA7:=Lib.hid (HA6.out.grownS ((GrownS.refl (·=w3.heap.size) w6).store rfl j (.int .u64 g)) hne2)
        have HG7:=Lib.hid (HG6.out.store (.inr rfl) j (.int .u64 g))
        have HD7:Hid (∃ k:Nat,((j:Int)-1)+1=k∧DivI N n (lv lb) (lv p*f) k A' (O.set j g)):=⟨j,by omega,HD6.out⟩
        clear HBK HD6 HO6 HA6 HG6 HBO
        go_wp2_with fail
        go_roundw
        case rel=>exact ⟨_,A',O.set j g,rfl,by omega,by omega,HG7.out,HA7.out,HO7.out,HD7.out⟩
        case measure=>simp [intOf]
       | 1,_ =>
        have hg0:0<g:=take_pos HT.out (by rw [HDJ.out.la,← HNB.out];exact hjn)
        obtain ⟨g',hg'⟩:∃ g',g'=g-1:=⟨_,rfl⟩
        have hg'i:(g:Int)-1=(g':Int):=by omega
        have hg'b:g'<1000000000:=by omega
        have HGP:=Lib.hid hg'
        have HBB:=Lib.hid (HBK.out _ A' (HT.out.len.trans HDJ.out.la) HT.out.pcs HA6.out HG6.out)
        clear hg' HBK HBO
        go_wp2_with fail
        refine HBB.out.mono ?_
        rintro e w7 ⟨A'',co,rfl,ho7,hB,hg7⟩
        have HD6:=Lib.hid (HDJ.out.back HT.out hB HNB.out.symm HRB.out.2.1.1 rfl hjn HLE.out hgb).2
        rw [← HGP.out] at HD6
        have HG7:=Lib.hid (HG6.out.trans (hg7.weak fun k _ hk=>Or.inl hk))
        have HO7:=Lib.hid (HO6.out.grownS hg7 hne1)
        have HA7:=Lib.hid ho7
        clear hB ho7 hg7 HBB HO6 HA6 HG6
        obtain ⟨cz,fz⟩:=HO7.out.get HZ.out
        have HO8:=Lib.hid (HO7.out.set j g')
        have HA8:=Lib.hid (HA7.out.grownS ((GrownS.refl (·=w3.heap.size) w7).store rfl j (.int .u64 g')) hne2)
        have HG8:=Lib.hid (HG7.out.store (.inr rfl) j (.int .u64 g'))
        have HD7:Hid (∃ k:Nat,((j:Int)-1)+1=k∧DivI N n (lv lb) (lv p*f) k A'' (O.set j g')):=⟨j,by omega,HD6.out⟩
        clear HD6 HO7 HA7 HG7
        go_wp2_with fail
        go_roundw
        case rel=>exact ⟨_,A'',O.set j g',rfl,by omega,by omega,HG8.out,HA8.out,HO8.out,HD7.out⟩
        case measure=>simp [intOf]
       | bo+2,h=>exact absurd h.out (by omega)
   ·have HDZ:Hid (DivI N n (lv lb) (lv p*f) 0 A O):=by
     obtain ⟨k,e,h⟩:=HD.out
     have:k=0:=by omega
     rw [this] at h;exact h
    have HTA:=Lib.hid (trim_any w.heap.size A _ wo HA.out HDZ.out.pa)
    have HEW:Hid (Ext w wo):=Below.trans HE4.out (HG.out.belowE (B:=w.heap.size) (by rintro k (hk | hk) <;> omega) HE4.out.size)
    have hv:=HDZ.out.val
    have hl:=HDZ.out.lt
    rw [List.drop_zero,pB_zero,Nat.one_mul] at hv
    rw [List.drop_zero] at hl
    have hq0:0<lv q:=by
     have:=HQ.out.ge (by rintro rfl;simp at hq2)
     have:=pB_pos (q.length-1)
     omega
    have HEND:=Lib.hid (div_end rfl HRB.out.2.2.1 hq0 hf0 hv hl)
    clear hv hl
    go_wp2_with fail
    refine HTA.out.mono ?_
    rintro e w5 ⟨ra,la,rfl,hra,kk,rfl⟩
    have HRA:=Lib.hid hra.out
    have HSM:=Lib.hid (small_any la f ra _ HRA.out.1.at HRA.out.2.1.1 hfb hf0 (by have:=HRA.out.2.2.2;rw [HDZ.out.la] at this;omega))
    clear hra HTA
    go_wp2_with fail
    refine HSM.out.mono ?_
    rintro e w6 ⟨rs,ls,rfl,hrs,hE6⟩
    have HRS:=Lib.hid hrs.out
    have HE6:=Lib.hid (Ext.trans (Ext.draws HEW.out kk) hE6)
    have HO6:=Lib.hid (HO.out.ext (Ext.trans (Ext.drewN wo kk) hE6))
    have HTO:=Lib.hid (trim_any w3.heap.size O _ w6 HO6.out HDZ.out.po)
    clear hrs HSM
    go_wp2_with fail
    refine HTO.out.mono ?_
    rintro e w7 ⟨rt,lt',rfl,hrt,k7,rfl⟩
    have HRT:=Lib.hid hrt.out
    clear hrt HTO
    go_wp2_with fail
    go_ret2
    refine ⟨rt,lt',rs,ls,rfl,⟨HRT.out.1.base (by omega),HRT.out.2.1,HRT.out.2.2.1.trans HEND.out.1,?_⟩,⟨((HRS.out.1.base ?_).ext (Ext.drewN _ _)),HRS.out.2.1,?_,?_⟩,Ext.draws HE6.out _⟩
    ·have:=HRT.out.2.2.2;rw [HDZ.out.lo] at this;omega
    ·have:=HEW.out.size;simpa using this
    ·rw [HRS.out.2.2.1,HRA.out.2.2.1,HEND.out.2,Nat.mul_div_cancel _ hf0]
    ·have:=HRS.out.2.2.2;have:=HRA.out.2.2.2;rw [HDZ.out.la] at this;omega
theorem zeroCells_rep (k:Nat):(Builtin.zeroCells (Value.int .u64 0).cells k).toList=(List.replicate k (0:Nat)).map pcV:=by
 have e:(Value.int .u64 0).cells=#[Value.int .u64 0]:=rfl
 rw [e]
 apply List.ext_getElem?
 intro i
 simp only [Builtin.zeroCells,List.getElem?_map,List.getElem?_replicate]
 by_cases h:i<k <;> simp [h,pcV,Nat.mod_one]
theorem grown_zeros {B:Nat} {w:World} (l:List Nat) (k old:Nat) (hb:B≤w.heap.size) (hm:l.length+k≤maxLen) (row:Option Nat) :
  OwnP B (w.drew.alloc (.cells ((l.map pcV).toArray++Builtin.zeroCells (Value.int .u64 0).cells k++Builtin.zeroCells (Value.int .u64 0).cells (grownCap w (l.length+k) old 204-(l.length+k))) 204))
   (.slice (some ⟨w.heap.size,0,none⟩) (l.length+k) (grownCap w (l.length+k) old 204)) (l++List.replicate k 0) ∧
  w.grownBy (w.drew.alloc (.cells ((l.map pcV).toArray++Builtin.zeroCells (Value.int .u64 0).cells k++Builtin.zeroCells (Value.int .u64 0).cells (grownCap w (l.length+k) old 204-(l.length+k))) 204)) row:=by
 have hge:=grownCap_ge w (l.length+k) old 204
 have hcm:=grownCap_le_maxLen w (l.length+k) old 204 hm
 refine ⟨⟨by simp,.inr ⟨w.heap.size,_,_,by simp,hb,heap_alloc_new w.drew _,by simpa using hge,hcm,?_,?_⟩⟩,((Ext.drew w).trans (Ext.alloc _ _)).grown row⟩
 ·simp only [Array.size_append,List.size_toArray,size_zeroCells,List.length_map]
  show l.length+k*1+_*1=_*1
  omega
 ·simp only [Array.toList_append,zeroCells_rep]
  have:(l++List.replicate k 0).length*1=(l.map pcV++(List.replicate k 0).map pcV).length:=by simp
  rw [this,List.map_append]
  exact List.take_left
theorem run_append_zeros_own {P:Program} (w:World) (B:Nat) (t tn ty:TypeId) (i:TypeInfo) (kn:IntKind) (ht:P.underlying t=some (.slice 204)) (htn:P.underlying tn=some (.int kn)) (hi:P.info? 204=some i) (hz:i.zero=some (.int .u64 0)) (hs:i.size=1) (hby:i.bytes=8)
  (v:Value) (l:List Nat) (h:OwnP B w v l) (k:Nat) (hl:l.length≤100000000000) (hk:k≤100000000000) (hb:B≤w.heap.size) :
  ∃ v' w',(Builtin.append_ #[t,tn] ty #[v,.int .i64 k]).run P w=.ok v' w'∧OwnP B w' v' (l++List.replicate k 0)∧w.grownBy w' v.ownBlock∧(v'.ownBlock=v.ownBlock∨v'.ownBlock=some w.heap.size):=by
 have hw:IntKind.i64.wrap (k:Int)=k:=by rw [IntKind.wrap_i64];omega
 have hneg:¬ ((k:Int)<0):=by omega
 have hw0:IntKind.i64.wrap 0=0:=by rw [IntKind.wrap_i64];rfl
 have h48i:¬ (281474976710656<(k:Int)*8):=by omega
 rcases h.2 with ⟨rfl,hn⟩ | ⟨g,cap,cur,rfl,hbg,hg,hnc,hcm,hcs,htake⟩
 ·have hx:l=[]:=List.length_eq_zero_iff.1 hn
  subst hx
  by_cases hk0:k=0
  ·subst hk0
   refine ⟨.slice none 0 0,w,?_,OwnP.nil B w,World.grownBy.refl _ _,.inl rfl⟩
   simp [Builtin.append_,run_underlying ht,run_underlying htn,sizeOf,typeInfo,hi,asInt,asIntOf,hw0,hs,hby]
  ·have hr:=Lib.run_append_nil_zeros (P:=P) w t tn ty 204 i (.int .u64 0) .i64 kn ht htn hi hz k (by omega) (by omega) (by omega) (by rw [hby];omega)
   have hgr:=grown_zeros (B:=B) (w:=w) [] k 0 hb (by simp [maxLen];omega) (Value.ownBlock (.slice none 0 0))
   simp only [List.length_nil,Nat.zero_add,List.map_nil,List.nil_append,Array.empty_append] at hgr
   exact ⟨_,_,hr,hgr.1,hgr.2,.inr rfl⟩
 ·rw [Nat.mul_one] at hcs htake
  by_cases hroom:l.length+k≤cap
  ·have hst:=run_storeCells_at P g l.length 204 ((List.replicate k (0:Nat)).map pcV) 0 cur w hg (by simp;omega) (by intro u hu;simp [pcV] at hu;rw [hu.2];rfl)
   simp only [Nat.add_zero] at hst
   have hr:(Builtin.append_ #[t,tn] ty #[.slice (some ⟨g,0,none⟩) l.length cap,.int .i64 k]).run P w=.ok (.slice (some ⟨g,0,none⟩) (l.length+k) cap) (w.setRow g (cur.toList.take l.length++(List.replicate k (0:Nat)).map pcV++cur.toList.drop (l.length+((List.replicate k (0:Nat)).map pcV).length)).toArray):=by
    by_cases hk0:k=0
    ·subst hk0
     simp [Builtin.append_,run_underlying ht,run_underlying htn,sizeOf,typeInfo,hi,asInt,asIntOf,hw0,hs,hby,hroom,Addr.add_lit]
     simp at hst
     have:l.length≤cap:=by omega
     simp [hst,this]
    ·have hzz:(Builtin.zeroCells (Value.int .u64 0).cells k).toList=(List.replicate k (0:Nat)).map pcV:=zeroCells_rep k
     simp [Builtin.append_,run_underlying ht,run_underlying htn,sizeOf,typeInfo,zeroValue,hi,hz,asInt,asIntOf,hw,hs,hby,hroom,Addr.add_lit,hneg,h48i,hk0]
     rw [hzz]
     simp at hst
     simp [hst]
   refine ⟨_,_,hr,⟨by simp,.inr ⟨g,cap,_,by simp,hbg,setRow_heap w g cur _ 204 _ hg,by simpa using hroom,hcm,?_,?_⟩⟩,⟨rfl,rfl,rfl,by simp,fun k hk _=>setRow_other w g k _ (fun e=>by simp_all [Value.ownBlock])⟩,.inl rfl⟩
   ·simp only [List.size_toArray,List.length_append,List.length_take,List.length_drop,Array.length_toList,List.length_map,List.length_replicate]
    omega
   ·rw [htake,Nat.mul_one]
    have:(l++List.replicate k 0).length=(l.map pcV++(List.replicate k 0).map pcV).length:=by simp
    rw [this,List.map_append]
    exact List.take_left
  ·have hold:(Builtin.firstCells i.size l.length (.slice (some ⟨g,0,none⟩) l.length cap)).run P w.drew=.ok (l.map pcV).toArray w.drew:=by
    refine run_firstCells_some (P:=P) w.drew i.size l.length ⟨g,0,none⟩ l.length cap (l.map pcV) (by simp [hs]) ?_
    intro j u hu
    have:=World.ownsRow.cells h (g:=g) rfl j u hu
    simpa using this
   have hr:=Lib.run_append_grow_zeros (P:=P) w t tn ty 204 i (.int .u64 0) .i64 kn ht htn hi hz (some ⟨g,0,none⟩) l.length cap (l.map pcV) hold k (by omega) (by omega) (by omega) (by omega) (by rw [hby];omega) (growslice_fits (by omega) (by rw [hby];omega))
   have hgr:=grown_zeros (B:=B) (w:=w) l k cap hb (by simp [maxLen];omega) (Value.ownBlock (.slice (some ⟨g,0,none⟩) l.length cap))
   exact ⟨_,_,hr,hgr.1,hgr.2,.inr rfl⟩
theorem numB_size_pos (u:Nat):1≤(numB u).size:=by rw [numB_size];exact Lib.nDigits_pos u
theorem numB_size_le (u k:Nat) (h:u<10^k) (hk:1≤k):(numB u).size≤k:=by rw [numB_size];exact nDigits_le u k h hk
theorem num_zero (u:Nat):((numB u).toList == [48])=decide (u=0):=by
 rw [numB_list,show ([48]:List UInt8)=Lib.decDigits 0 by rw [Lib.decDigits_one (by omega)];rfl,digits_eq]
set_option maxRecDepth 100000 in
set_option maxHeartbeats 400000 in
theorem decCompare_any (u v:Nat) (w:World) (hu:(numB u).size≤10000000000) (hv:(numB v).size≤10000000000) :
  Calls Tryz.prog 121 #[.string (numB u),.string (numB v)] w fun e w'=>e=.returned (.int .i64 (cmpN u v))∧w=w':=by
 have s1:=numB_size u
 have s2:=numB_size v
 by_cases hl:(numB u).size=(numB v).size
 ·have hl':(((numB u).size:Int) != ((numB v).size:Int))=false:=by simp [hl]
  have q1:Op.bytesLess (numB u).toList (numB v).toList=decide (u<v):=by rw [numB_list,numB_list];exact less_num u v (by omega)
  have q2:Op.bytesLess (numB v).toList (numB u).toList=decide (v<u):=by rw [numB_list,numB_list];exact less_num v u (by omega)
  have q3:((numB u).toList == (numB v).toList)=decide (u=v):=by rw [numB_list,numB_list];exact digits_eq u v
  have HC:Hid (cmpN u v=if u<v then -1 else if u=v then 0 else 1):=rfl
  clear s1 s2 hl
  rcases Nat.lt_trichotomy u v with h | h | h
  ·rw [decide_eq_true h] at q1
   rw [if_pos h] at HC
   rw [HC.out]
   clear q2 q3 HC h
   go_enter Tryz.func121,Tryz.ntmps121
   go_wp2_with fail
   go_ret
   exact ⟨rfl,rfl⟩
  ·have hn:¬ u<v:=by omega
   rw [decide_eq_false hn] at q1
   rw [decide_eq_true h] at q3
   rw [if_neg hn,if_pos h] at HC
   rw [HC.out]
   clear q2 HC h hn
   go_enter Tryz.func121,Tryz.ntmps121
   go_wp2_with fail
   go_ret
   exact ⟨rfl,rfl⟩
  ·have hn:¬ u<v:=by omega
   have hn2:¬ u=v:=by omega
   rw [decide_eq_false hn] at q1
   rw [decide_eq_false hn2] at q3
   rw [if_neg hn,if_neg hn2] at HC
   rw [HC.out]
   clear q2 HC h hn hn2
   go_enter Tryz.func121,Tryz.ntmps121
   go_wp2_with fail
   go_ret
   exact ⟨rfl,rfl⟩
 ·have hl':(((numB u).size:Int) != ((numB v).size:Int))=true:=by simp;omega
  rcases Nat.lt_or_gt_of_ne hl with h | h
  ·have HC:Hid (cmpN u v=-1):=by
    unfold Hid cmpN;rw [if_pos (nDigits_lt (by omega))]
   rw [HC.out]
   clear HC hl
   go_enter Tryz.func121,Tryz.ntmps121
   go_wp2_with fail
   go_ret
   exact ⟨(show Ending.returned (.int .i64 (min 1 (max (-1) ((Lib.nDigits u:Int)-(Lib.nDigits v:Int)))))=_ from ret_int (by omega)),rfl⟩
  ·have HC:Hid (cmpN u v=1):=by
    have:=nDigits_lt (u:=v) (v:=u) (by omega)
    unfold Hid cmpN;rw [if_neg (by omega),if_neg (by omega)]
   rw [HC.out]
   clear HC hl
   go_enter Tryz.func121,Tryz.ntmps121
   go_wp2_with fail
   go_ret
   exact ⟨(show Ending.returned (.int .i64 (min 1 (max (-1) ((Lib.nDigits u:Int)-(Lib.nDigits v:Int)))))=_ from ret_int (by omega)),rfl⟩
theorem wpList_append_pc {w:World} {ops:Array Oper} {rest:List Oper} {o:Oper} {a:Act} {Q:Exit→Act→World→Prop} (hgd:o.guard=none)
  (s x:Operand) (ho:o.op=Op.call { callee:=Callee.builtin Builtin.append,args:=#[s,x],argTypes:=#[209,209] }) (B:Nat)
  (v:Value) (l:List Nat) (y:Nat) (C:Array Value) (hs:a.eval s=v) (hO:OwnP B w v l)
  (hx:a.eval x=.slice (some ⟨w.heap.size,0,none⟩) 1 1) (hC:C=#[pcV y]) (hlen:l.length<100000000000) (hbase:B≤w.heap.size)
  (h:∀ v' w',OwnP B w' v' (l++[y])→w.grownBy w' v.ownBlock→(v'.ownBlock=v.ownBlock∨v'.ownBlock=some (w.heap.size+1))→wpList Tryz.prog ops Q rest (a.put o.dst v') w') :
  wpList Tryz.prog ops Q (o::rest) a (w.alloc (.cells C 204)):=by
 subst hC
 obtain ⟨i,hi,hz,hsize,hby⟩:=info_parts infoU64
 have hadd:∀ j,(⟨w.heap.size,0,none⟩:Addr).add j=⟨w.heap.size,j,none⟩:=by intro j;unfold Addr.add;split <;> simp_all
 refine wpList_plain hgd fun K hK=>?_
 refine wp_append_own_at (w.alloc (.cells #[pcV y] 204)) s x 209 ho B 204 i (.int .u64 0) 1 8 Tryz.underlying209 hi hz hsize hby rfl (by decide) v l.length (l.map pcV) hs (World.ownsRow.alloc hO _) ⟨w.heap.size,0,none⟩ 1 1 [pcV y] hx rfl ?_ (by intro u hu;simp at hu;rw [hu];rfl) ?_ ?_ ?_ ?_
 ·intro j q hq
  rw [hadd,World.cell?_alloc_new]
  simpa using hq
 ·unfold maxLen;omega
 ·omega
 ·simp;omega
 ·intro v' w' hown hgrow _ hat
  refine hK _ _ (h v' w' ?_ (grown_trans (World.grownBy_alloc w _ v.ownBlock) hgrow) ?_)
  ·unfold OwnP;rw [List.length_append,List.map_append];exact hown
  ·simpa using hat
theorem OwnP.kept {B:Nat} {w w':World} {v:Value} {l:List Nat} {r:Option Nat} (h:OwnP B w v l) (hg:w.grownBy w' r) (hne:v.ownBlock=none∨v.ownBlock≠r):OwnP B w' v l:=World.ownsRow.kept h hg hne
theorem OwnP.lt {B:Nat} {w:World} {v:Value} {l:List Nat} (h:OwnP B w v l):∀ b,v.ownBlock=some b→B≤b∧b<w.heap.size:=World.ownsRow.lt h
theorem lv_pad (l:List Nat) (k:Nat):lv (l++List.replicate k 0)=lv l:=by rw [lv_append,lv_zeros];simp
theorem Pcs.pad {l:List Nat} (h:Pcs l) (k:Nat):Pcs (l++List.replicate k 0):=h.append (Pcs.zeros k)
theorem back_sum {X Y L:List Nat} {c:Nat} (hB:BackR X Y 0 L c) (hX:X.length=Y.length+1) (hx:lv X<pB Y.length) (hy:Pcs Y):lv L=lv X+lv Y:=by
 have hv:=hB.val
 rw [pB_zero,Nat.one_mul,Nat.zero_add,pB_succ] at hv
 have h2:=lv_lt hy
 have hp:=pB_pos Y.length
 cases c with
 | zero=>omega
 | succ c =>
  exfalso
  rw [Nat.succ_mul] at hv
  omega
theorem take_diff {X Y L:List Nat} {b:Nat} (hT:TakeR X Y 1 0 L b) (hX:X.length=Y.length+1) (hle:lv Y≤lv X):lv L=lv X-lv Y∧b=0:=by
 have hv:=hT.val
 rw [pB_zero,Nat.one_mul,Nat.one_mul,Nat.zero_add] at hv
 have h2:=lv_lt hT.pcs
 rw [hT.len,hX] at h2
 have hb:=hT.le
 match b with
 | 0=>omega
 | 1=>omega
 | b+2=>omega
theorem cut_num (u:Nat) (w:World) (hs:(numB u).size≤6000000000) :
  Calls Tryz.prog 169 #[.string (numB u)] w fun e w'=>∃ v l,e=.returned v∧Hid (OwnP w.heap.size w' v l∧Can l∧lv l=u∧l.length≤(numB u).size)∧Ext w w':=by
 have:=cut_any (numB u) w (by rw [numB_data];exact digits_all u) (by omega)
 rw [numB_data,digits_val] at this
 exact this
theorem num_small {u:Nat} (h:(numB u).size≤18):u<1000000000000000000:=by
 rw [numB_size] at h
 have h1:=Lib.lt_pow_nDigits u
 have h2:10^Lib.nDigits u≤10^18:=Nat.pow_le_pow_right (by omega) h
 rw [show (10:Nat)^18=1000000000000000000 by decide] at h2
 omega
set_option maxRecDepth 100000 in
set_option maxHeartbeats 2000000 in
theorem decMul_any (u v:Nat) (w:World) (hu:(numB u).size≤3000000000) (hv:(numB v).size≤3000000000) (ht:Pow10 w) :
  Calls Tryz.prog 123 #[.string (numB u),.string (numB v)] w fun e w'=>e=.returned (.string (numB (u*v)))∧Ext w w':=by
 have HT:=Lib.hid ht
 clear ht
 by_cases hs:(numB u).size+(numB v).size≤18
 ·have hp1:=numB_size_pos u
  have hp2:=numB_size_pos v
  have HB:=Lib.hid (both_yes u v w (by omega) (by omega))
  have hm:u*v<18446744073709551616:=by
   have h:=num_mul_size u v
   have:=num_small (u:=u*v) (by omega)
   omega
  obtain ⟨m,hmm⟩:∃ m,u*v=m:=⟨_,rfl⟩
  rw [hmm] at hm ⊢
  have hmi:(u:Int)*(v:Int)=(m:Int):=by rw [← hmm];exact (Int.natCast_mul _ _).symm
  have HO:Hid (∀ W,Ext w W→Calls Tryz.prog 168 #[.int .u64 m] W fun e w'=>e=.returned (.string (numB m))∧Ext W w'):=fun W hW=>decOf_any m W hm (HT.out.ext hW)
  clear hmm hp1 hp2
  go_enter Tryz.func123,Tryz.ntmps123
  go_wp2_with fail
  refine HB.out.mono ?_
  rintro e w1 ⟨rfl,hE1⟩
  have HE1:=Lib.hid hE1
  clear hE1 HB
  go_wp2_with fail
  refine (HO.out _ HE1.out).mono ?_
  rintro e w2 ⟨rfl,hE2⟩
  have HE2:=Lib.hid (Ext.trans HE1.out hE2)
  clear hE2 HO
  go_wp2_with fail
  go_ret
  exact ⟨rfl,HE2.out⟩
 ·have HC1:=Lib.hid (cut_num u w (by omega))
  have HC2:Hid (∀ W,Calls Tryz.prog 169 #[.string (numB v)] W fun e w'=>∃ r l,e=.returned r∧Hid (OwnP W.heap.size w' r l∧Can l∧lv l=v∧l.length≤(numB v).size)∧Ext W w'):=fun W=>cut_num v W (by omega)
  go_enter Tryz.func123,Tryz.ntmps123
  go_wp2_with fail
  refine HC1.out.mono ?_
  rintro e w1 ⟨v1,l1,rfl,h1,hE1⟩
  have HL1:=Lib.hid h1.out
  have HE1:=Lib.hid hE1
  clear h1 hE1 HC1
  go_wp2_with fail
  refine (HC2.out _).mono ?_
  rintro e w2 ⟨v2,l2,rfl,h2,hE2⟩
  have HL2:=Lib.hid h2.out
  have HE2:=Lib.hid (Ext.trans HE1.out hE2)
  have HM:=Lib.hid (times_any l1 l2 v1 v2 w2 (PcsAt.ext HL1.out.1.at hE2) HL2.out.1.at HL1.out.2.1.1 HL2.out.2.1.1 (by have:=HL1.out.2.2.2;omega) (by have:=HL2.out.2.2.2;omega))
  clear h2 hE2 HC2
  go_wp2_with fail
  refine HM.out.mono ?_
  rintro e w3 ⟨v3,l3,rfl,h3,hE3⟩
  have HL3:=Lib.hid h3.out
  have HE3:=Lib.hid (Ext.trans HE2.out hE3)
  have HX:=text_any l3 v3 w3 HL3.out.1.at HL3.out.2.1 (by have:=HL3.out.2.2.2;have:=HL1.out.2.2.2;have:=HL2.out.2.2.2;omega)
  rw [HL3.out.2.2.1,HL1.out.2.2.1,HL2.out.2.2.1] at HX
  have HX:=Lib.hid HX
  clear h3 hE3 HM
  go_wp2_with fail
  refine HX.out.mono ?_
  rintro e w4 ⟨rfl,hE4⟩
  have HE4:=Lib.hid (Ext.trans HE3.out hE4)
  clear hE4 HX
  go_wp2_with fail
  go_ret
  exact ⟨rfl,HE4.out⟩
set_option maxRecDepth 100000 in
set_option maxHeartbeats 4000000 in
theorem decAdd_any (u v:Nat) (w:World) (hu:(numB u).size≤3000000000) (hv:(numB v).size≤3000000000) (ht:Pow10 w) :
  Calls Tryz.prog 120 #[.string (numB u),.string (numB v)] w fun e w'=>e=.returned (.string (numB (u+v)))∧Ext w w':=by
 have HT:=Lib.hid ht
 clear ht
 by_cases hs:(numB u).size≤18∧(numB v).size≤18
 ·have HB:=Lib.hid (both_yes u v w hs.1 hs.2)
  have h1:=num_small hs.1
  have h2:=num_small hs.2
  obtain ⟨m,hmm⟩:∃ m,u+v=m:=⟨_,rfl⟩
  have hm:m<18446744073709551616:=by omega
  rw [hmm]
  have hmi:(u:Int)+(v:Int)=(m:Int):=by omega
  have HO:Hid (∀ W,Ext w W→Calls Tryz.prog 168 #[.int .u64 m] W fun e w'=>e=.returned (.string (numB m))∧Ext W w'):=fun W hW=>decOf_any m W hm (HT.out.ext hW)
  clear hmm
  go_enter Tryz.func120,Tryz.ntmps120
  go_wp2_with fail
  refine HB.out.mono ?_
  rintro e w1 ⟨rfl,hE1⟩
  have HE1:=Lib.hid hE1
  clear hE1 HB
  go_wp2_with fail
  refine (HO.out _ HE1.out).mono ?_
  rintro e w2 ⟨rfl,hE2⟩
  have HE2:=Lib.hid (Ext.trans HE1.out hE2)
  clear hE2 HO
  go_wp2_with fail
  go_ret
  exact ⟨rfl,HE2.out⟩
 ·have HB:=Lib.hid (both_no u v w (by omega))
  have HC1:Hid (∀ W,Calls Tryz.prog 169 #[.string (numB u)] W fun e w'=>∃ r l,e=.returned r∧Hid (OwnP W.heap.size w' r l∧Can l∧lv l=u∧l.length≤(numB u).size)∧Ext W w'):=fun W=>cut_num u W (by omega)
  have HC2:Hid (∀ W,Calls Tryz.prog 169 #[.string (numB v)] W fun e w'=>∃ r l,e=.returned r∧Hid (OwnP W.heap.size w' r l∧Can l∧lv l=v∧l.length≤(numB v).size)∧Ext W w'):=fun W=>cut_num v W (by omega)
  obtain ⟨i0,hi,hz0,hz1,hz2⟩:=info_parts infoU64
  have HI:=Lib.hid hi;have HZ0:=Lib.hid hz0;have HZ1:=Lib.hid hz1;have HZ2:=Lib.hid hz2
  clear hi hz0 hz1 hz2 hs
  go_enter Tryz.func120,Tryz.ntmps120
  go_wp2_with fail
  refine HB.out.mono ?_
  rintro e w0 ⟨rfl,hE0⟩
  have HE0:=Lib.hid hE0
  clear hE0 HB
  go_wp2_with fail
  refine (HC1.out _).mono ?_
  rintro e w1 ⟨v1,l1,rfl,h1,hE1⟩
  have HL1:=Lib.hid h1.out
  have HE1:=Lib.hid (Ext.trans HE0.out hE1)
  have hb1:w.heap.size≤w0.heap.size:=HE0.out.size
  clear h1 hE1 HC1
  go_wp2_with fail
  refine (HC2.out _).mono ?_
  rintro e w2 ⟨v2,l2,rfl,h2,hE2⟩
  have HL2:=Lib.hid h2.out
  have HE2:=Lib.hid (Ext.trans HE1.out hE2)
  have hb2:w.heap.size≤w1.heap.size:=HE1.out.size
  have HNE:Hid (∀ b,v1.ownBlock=some b→v2.ownBlock≠some b):=fun b hb hb'=>by
   have k1:=(HL1.out.1.lt b hb).2
   have k2:=(HL2.out.1.lt b hb').1
   omega
  have HO1:=Lib.hid ((HL1.out.1.ext hE2).base hb1)
  have HO2:=Lib.hid (HL2.out.1.base hb2)
  obtain ⟨a1,c1,hv1,hl1,hc1,-⟩:=HO1.out.form
  obtain ⟨a2,c2,hv2,hl2,hc2,-⟩:=HO2.out.form
  have hlen1:l1.length≤3000000000:=by have:=HL1.out.2.2.2;omega
  have hlen2:l2.length≤3000000000:=by have:=HL2.out.2.2.2;omega
  clear h2 hE2 HC2
  have hsz2:w.heap.size≤w2.heap.size:=HE2.out.size
  subst hv1
  subst hv2
  have HMAIN:Hid (∃ lX lY vX vY:_,∃ aX cX aY cY,vX=Value.slice aX (List.length lX) cX∧vY=Value.slice aY (List.length lY) cY∧OwnP w.heap.size w2 vX lX∧OwnP w.heap.size w2 vY lY∧Can lX∧Can lY∧lY.length≤lX.length):=by
   by_cases h:l1.length<l2.length
   ·exact ⟨l2,l1,_,_,a2,c2,a1,c1,rfl,rfl,HO2.out,HO1.out,HL2.out.2.1,HL1.out.2.1,by omega⟩
   ·exact ⟨l1,l2,_,_,a1,c1,a2,c2,rfl,rfl,HO1.out,HO2.out,HL1.out.2.1,HL2.out.2.1,by omega⟩
  clear HMAIN
  by_cases hlt:l1.length<l2.length
  case' pos =>
   obtain ⟨aX,rfl⟩:∃ a,a=a2:=⟨_,rfl⟩
   obtain ⟨cX,rfl⟩:∃ a,a=c2:=⟨_,rfl⟩
   obtain ⟨lX,rfl⟩:∃ a,a=l2:=⟨_,rfl⟩
   obtain ⟨aY,rfl⟩:∃ a,a=a1:=⟨_,rfl⟩
   obtain ⟨cY,rfl⟩:∃ a,a=c1:=⟨_,rfl⟩
   obtain ⟨lY,rfl⟩:∃ a,a=l1:=⟨_,rfl⟩
   have HX:=HO2
   have HY:=HO1
   have HCX:=Lib.hid HL2.out.2.1
   have HCY:=Lib.hid HL1.out.2.1
   have HN:Hid (∀ b,(Value.slice aX lX.length cX).ownBlock=some b→(Value.slice aY lY.length cY).ownBlock≠some b):=fun b hb hb'=>HNE.out b hb' hb
   have HV:Hid (lv lX+lv lY=u+v):=by unfold Hid;rw [HL1.out.2.2.1,HL2.out.2.2.1];omega
  case' neg =>
   obtain ⟨aX,rfl⟩:∃ a,a=a1:=⟨_,rfl⟩
   obtain ⟨cX,rfl⟩:∃ a,a=c1:=⟨_,rfl⟩
   obtain ⟨lX,rfl⟩:∃ a,a=l1:=⟨_,rfl⟩
   obtain ⟨aY,rfl⟩:∃ a,a=a2:=⟨_,rfl⟩
   obtain ⟨cY,rfl⟩:∃ a,a=c2:=⟨_,rfl⟩
   obtain ⟨lY,rfl⟩:∃ a,a=l2:=⟨_,rfl⟩
   have HX:=HO1
   have HY:=HO2
   have HCX:=Lib.hid HL1.out.2.1
   have HCY:=Lib.hid HL2.out.2.1
   have HN:Hid (∀ b,(Value.slice aX lX.length cX).ownBlock=some b→(Value.slice aY lY.length cY).ownBlock≠some b):=HNE
   have HV:Hid (lv lX+lv lY=u+v):=by unfold Hid;rw [HL1.out.2.2.1,HL2.out.2.2.1]
  all_goals
   have hXY:lY.length≤lX.length:=by omega
   have HLX:Hid (lX.length<100000000000):=by unfold Hid;omega
   clear HL1 HL2 HNE HO1 HO2
   go_wp2_with (at_builtin;go_must (refine wpList_append_pc rfl _ _ rfl w.heap.size (.slice aX lX.length cX) lX 0 #[.int .u64 0] rfl HX.out rfl rfl HLX.out hsz2 ?_))
   intro v3 w3 hO3 hg3 hat3
   have HY3:=Lib.hid (HY.out.kept hg3 (by cases hb:(Value.slice aY lY.length cY).ownBlock with | none=>exact .inl rfl | some b=>exact .inr fun e=>HN.out b e.symm hb))
   have HNN:Hid (∀ b,v3.ownBlock=some b→(Value.slice aY lY.length cY).ownBlock≠some b):=by
    intro b hb hb'
    rcases hat3 with h | h
    ·exact HN.out b (h▸hb) hb'
    ·rw [h] at hb
     have:=(HY.out.lt b hb').2
     cases hb;omega
   have HE3:Hid (Ext w w3):=Below.trans HE2.out (c:=w3) ⟨hg3.os,hg3.tape,hg3.output,hg3.size,fun k hk=>hg3.block k (by omega) fun e=>by have:=(HX.out.lt k e.symm).1;omega⟩
   obtain ⟨a3,c3,hv3,hl3,hc3,hg3'⟩:=hO3.form
   obtain ⟨g3,rfl,hg31,hg32⟩:=hg3' (by simp)
   subst hv3
   have HO3:=Lib.hid hO3
   have hl3':(lX++[0]).length=lX.length+1:=by simp
   rw [hl3'] at HO3 HNN hl3 ⊢
   clear hO3 hg3 hat3 hg3' hl3'
   obtain ⟨kz,hkz⟩:∃ kz,kz=lX.length-lY.length:=⟨_,rfl⟩
   have hkzi:(lX.length:Int)-(lY.length:Int)=(kz:Int):=by omega
   obtain ⟨v4,w4,hr4,hO4,hg4,hat4⟩:=run_append_zeros_own (P:=Tryz.prog) w3 w.heap.size 209 3 209 i0 .i64 Tryz.underlying209 Tryz.underlying3 HI.out HZ0.out HZ1.out HZ2.out (.slice aY lY.length cY) lY HY3.out kz (by omega) (by omega) HE3.out.size
   have HR4:=Lib.hid hr4
   have hne4:¬ v4.ownBlock=some g3:=by
    intro e
    rcases hat4 with h | h
    ·exact HNN.out g3 rfl (h▸e)
    ·rw [h] at e;cases e;omega
   have HO4:=Lib.hid (HO3.out.kept hg4 (.inr (fun e=>HNN.out g3 rfl (by rw [← e];rfl))))
   have HQ4:Hid (∀ W,GrownS (·=g3) w4 W→PcsAt W v4 (lY++List.replicate kz 0)):=fun W hW =>
    (hO4.kept (r:=some g3) ⟨hW.os,hW.tape,hW.output,hW.size,fun k hk hne=>hW.block k hk (fun e=>hne (by rw [e]))⟩ (by cases hb:v4.ownBlock with | none=>exact .inl rfl | some b=>exact .inr (fun e=>hne4 (by rw [hb,e])))).at
   have HE4:Hid (Ext w w4):=Below.trans HE3.out (c:=w4) ⟨hg4.os,hg4.tape,hg4.output,hg4.size,fun k hk=>hg4.block k (by have:=HE3.out.size;omega) fun e=>by have:=(HY3.out.lt k e.symm).1;omega⟩
   have hlq:(lY++List.replicate kz 0).length=lX.length:=by simp;omega
   have HBK:=back_any w.heap.size (lX++[0]) (lY++List.replicate kz 0) 0 g3 c3 v4 w4 (by rw [List.length_append];exact HO4.out) HQ4.out (HCX.out.1.append (Pcs.cons (by omega) Pcs.nil)) (HCY.out.1.pad kz) (by rw [hlq];simp) (by simp;omega)
   have hl3n:(lX++[0]).length=lX.length+1:=by simp
   rw [hl3n] at HBK
   clear hl3n
   have HBK:=Lib.hid HBK
   have HLQ:=Lib.hid hlq
   clear hr4 hO4 hg4 hat4 hkz hlq
   go_wp2_with (at_builtin;go_must (refine Lib.wpList_append_run _ rfl _ _ 209 3 rfl (.slice aY lY.length cY) (.int .i64 kz) rfl rfl v4 w4 HR4.out ?_))
   refine HBK.out.mono ?_
   rintro e w5 ⟨L,c,rfl,ho5,hB,hg5⟩
   have HE5:Hid (Ext w w5):=Below.trans HE4.out (hg5.belowE (B:=w.heap.size) (by rintro k rfl;exact hg31) HE4.out.size)
   have HSUM:Hid (lv L=u+v):=by
    have h:=back_sum hB (by rw [HLQ.out];simp) (by rw [lv_append,HLQ.out];have:=lv_lt HCX.out.1;simpa [lv] using this) (HCY.out.1.pad kz)
    unfold Hid
    rw [h,lv_pad,lv_append,lv_cons,lv_nil,← HV.out];simp
   have HTR:=Lib.hid (trim_any w.heap.size L _ w5 ho5 hB.pcs)
   have HLL:Hid (L.length≤3000000001):=by unfold Hid;rw [hB.len];simp;omega
   clear ho5 hB hg5 HBK HR4 HQ4 HO4 HO3
   go_wp2_with fail
   refine HTR.out.mono ?_
   rintro e w6 ⟨v6,l6,rfl,h6,kk,rfl⟩
   have H6:=Lib.hid h6.out
   have HX6:=text_any l6 v6 _ H6.out.1.at H6.out.2.1 (by have:=H6.out.2.2.2;have:=HLL.out;omega)
   rw [H6.out.2.2.1,HSUM.out] at HX6
   have HX6:=Lib.hid HX6
   clear h6 HTR
   go_wp2_with fail
   refine HX6.out.mono ?_
   rintro e w7 ⟨rfl,hE7⟩
   have HE7:=Lib.hid (Ext.trans (Ext.draws HE5.out kk) hE7)
   clear hE7 HX6
   go_wp2_with fail
   go_ret
   exact ⟨rfl,HE7.out⟩
set_option maxRecDepth 100000 in
set_option maxHeartbeats 4000000 in
theorem decSub_any (u v:Nat) (w:World) (hu:(numB u).size≤3000000000) (hv:(numB v).size≤3000000000) (hle:v≤u) (ht:Pow10 w) :
  Calls Tryz.prog 122 #[.string (numB u),.string (numB v)] w fun e w'=>e=.returned (.tuple #[.string (numB (u-v)),.int .i64 0])∧Ext w w':=by
 have HT:=Lib.hid ht
 have HCM:=Lib.hid (decCompare_any u v w (by omega) (by omega))
 have hcm:¬ cmpN u v<0:=by unfold cmpN;rw [if_neg (by omega)];split <;> omega
 obtain ⟨cm,hcmm⟩:∃ cm,cm=cmpN u v:=⟨_,rfl⟩
 rw [← hcmm] at HCM hcm
 clear ht hcmm
 by_cases hs:(numB u).size≤18∧(numB v).size≤18
 ·have HB:Hid (∀ W,Calls Tryz.prog 167 #[.string (numB u),.string (numB v)] W fun e w'=>e=.returned (.tuple #[.int .u64 u,.int .u64 v,.bool true])∧Ext W w'):=fun W=>both_yes u v W hs.1 hs.2
  have h1:=num_small hs.1
  have h2:=num_small hs.2
  obtain ⟨m,hmm⟩:∃ m,u-v=m:=⟨_,rfl⟩
  have hm:m<18446744073709551616:=by omega
  rw [hmm]
  have hmi:(u:Int)-(v:Int)=(m:Int):=by omega
  have HO:Hid (∀ W,Ext w W→Calls Tryz.prog 168 #[.int .u64 m] W fun e w'=>e=.returned (.string (numB m))∧Ext W w'):=fun W hW=>decOf_any m W hm (HT.out.ext hW)
  clear hmm
  go_enter Tryz.func122,Tryz.ntmps122
  go_wp2_with fail
  refine HCM.out.mono ?_
  rintro e w' ⟨rfl,rfl⟩
  clear HCM
  go_wp2_with fail
  refine (HB.out _).mono ?_
  rintro e w1 ⟨rfl,hE1⟩
  have HE1:=Lib.hid hE1
  clear hE1 HB
  go_wp2_with fail
  refine (HO.out _ HE1.out).mono ?_
  rintro e w2 ⟨rfl,hE2⟩
  have HE2:=Lib.hid (Ext.trans HE1.out hE2)
  clear hE2 HO
  go_wp2_with fail
  go_ret2
  exact ⟨rfl,HE2.out⟩
 ·have HB:Hid (∀ W,Calls Tryz.prog 167 #[.string (numB u),.string (numB v)] W fun e w'=>e=.returned (.tuple #[.int .u64 0,.int .u64 0,.bool false])∧Ext W w'):=fun W=>both_no u v W (by omega)
  have HC1:Hid (∀ W,Calls Tryz.prog 169 #[.string (numB u)] W fun e w'=>∃ r l,e=.returned r∧Hid (OwnP W.heap.size w' r l∧Can l∧lv l=u∧l.length≤(numB u).size)∧Ext W w'):=fun W=>cut_num u W (by omega)
  have HC2:Hid (∀ W,Calls Tryz.prog 169 #[.string (numB v)] W fun e w'=>∃ r l,e=.returned r∧Hid (OwnP W.heap.size w' r l∧Can l∧lv l=v∧l.length≤(numB v).size)∧Ext W w'):=fun W=>cut_num v W (by omega)
  obtain ⟨i0,hi,hz0,hz1,hz2⟩:=info_parts infoU64
  have HI:=Lib.hid hi;have HZ0:=Lib.hid hz0;have HZ1:=Lib.hid hz1;have HZ2:=Lib.hid hz2
  clear hi hz0 hz1 hz2 hs
  go_enter Tryz.func122,Tryz.ntmps122
  go_wp2_with fail
  refine HCM.out.mono ?_
  rintro e w' ⟨rfl,rfl⟩
  clear HCM
  go_wp2_with fail
  refine (HB.out _).mono ?_
  rintro e w0 ⟨rfl,hE0⟩
  have HE0:=Lib.hid hE0
  clear hE0 HB
  go_wp2_with fail
  refine (HC1.out _).mono ?_
  rintro e w1 ⟨v1,l1,rfl,h1,hE1⟩
  have HL1:=Lib.hid h1.out
  have HE1:=Lib.hid (Ext.trans HE0.out hE1)
  have HX:=Lib.hid (h1.out.1.base HE0.out.size)
  obtain ⟨a1,c1,hv1,hl1,hc1,-⟩:=HX.out.form
  have hlen1:l1.length≤3000000000:=by have:=HL1.out.2.2.2;omega
  have HLX:Hid (l1.length<100000000000):=by unfold Hid;omega
  have hsz1:w.heap.size≤w1.heap.size:=HE1.out.size
  subst hv1
  clear h1 hE1 HC1
  go_wp2_with (at_builtin;go_must (refine wpList_append_pc rfl _ _ rfl w.heap.size (.slice a1 l1.length c1) l1 0 #[.int .u64 0] rfl HX.out rfl rfl HLX.out hsz1 ?_))
  intro v3 w3 hO3 hg3 hat3
  have HE3:Hid (Ext w w3):=Below.trans HE1.out (c:=w3) ⟨hg3.os,hg3.tape,hg3.output,hg3.size,fun k hk=>hg3.block k (by omega) fun e=>by have:=(HX.out.lt k e.symm).1;omega⟩
  obtain ⟨a3,c3,hv3,hl3,hc3,hg3'⟩:=hO3.form
  obtain ⟨g3,rfl,hg31,hg32⟩:=hg3' (by simp)
  subst hv3
  have HO3:=Lib.hid hO3
  have hl3':(l1++[0]).length=l1.length+1:=by simp
  rw [hl3'] at HO3 hl3 ⊢
  clear hO3 hg3 hat3 hg3' hl3'
  go_wp2_with fail
  refine (HC2.out _).mono ?_
  rintro e w4 ⟨v4,l4,rfl,h4,hE4⟩
  have HL4:=Lib.hid h4.out
  have HE4:=Lib.hid (Ext.trans HE3.out hE4)
  have hsz34:w3.heap.size≤w4.heap.size:=hE4.size
  have HO4:=Lib.hid (HO3.out.ext hE4)
  clear h4 hE4 HO3
  go_wp2_with fail
  refine (HC2.out _).mono ?_
  rintro e w5 ⟨v5,l5,rfl,h5,hE5⟩
  have HL5:=Lib.hid h5.out
  have HE5:=Lib.hid (Ext.trans HE4.out hE5)
  have HO5:=Lib.hid (HO4.out.ext hE5)
  have HY5:=Lib.hid (HL4.out.1.ext hE5)
  have hlen45:l5.length=l4.length:=by
   have h1:=Can.length_le HL5.out.2.1 HL4.out.2.1 (by rw [HL5.out.2.2.1,HL4.out.2.2.1];exact Nat.le_refl _)
   have h2:=Can.length_le HL4.out.2.1 HL5.out.2.1 (by rw [HL5.out.2.2.1,HL4.out.2.2.1];exact Nat.le_refl _)
   omega
  have hle41:l4.length≤l1.length:=Can.length_le HL4.out.2.1 HL1.out.2.1 (by rw [HL4.out.2.2.1,HL1.out.2.2.1];exact hle)
  obtain ⟨a4,c4,hv4,hl4,hc4,-⟩:=HY5.out.form
  obtain ⟨a5,c5,hv5,hl5,hc5,-⟩:=HL5.out.1.form
  subst hv4
  subst hv5
  have HNN:Hid (∀ b,(Value.slice a4 l4.length c4).ownBlock=some b→b≠g3):=fun b hb e=>by
   have:=(HL4.out.1.lt b hb).1
   omega
  rw [hlen45]
  obtain ⟨kz,hkz⟩:∃ kz,kz=l1.length-l4.length:=⟨_,rfl⟩
  have hkzi:(l1.length:Int)-(l4.length:Int)=(kz:Int):=by omega
  have hsz5:w.heap.size≤w5.heap.size:=HE5.out.size
  have HY5':=Lib.hid (HY5.out.base (B':=w.heap.size) (by have:=HE3.out.size;omega))
  obtain ⟨v6,w6,hr6,hO6,hg6,hat6⟩:=run_append_zeros_own (P:=Tryz.prog) w5 w.heap.size 209 3 209 i0 .i64 Tryz.underlying209 Tryz.underlying3 HI.out HZ0.out HZ1.out HZ2.out (.slice a4 l4.length c4) l4 HY5'.out kz (by omega) (by omega) hsz5
  have HR6:=Lib.hid hr6
  have hne6:¬ v6.ownBlock=some g3:=by
   intro e
   rcases hat6 with h | h
   ·exact HNN.out g3 (h▸e) rfl
   ·rw [h] at e;cases e
    have:=HE5.out.size
    have h5:=(HO5.out.lt w5.heap.size rfl).2
    omega
  have HO6:=Lib.hid (HO5.out.kept hg6 (.inr (fun e=>HNN.out g3 e.symm rfl)))
  have HQ6:Hid (∀ W,GrownS (·=g3) w6 W→PcsAt W v6 (l4++List.replicate kz 0)):=fun W hW =>
   (hO6.kept (r:=some g3) ⟨hW.os,hW.tape,hW.output,hW.size,fun k hk hne=>hW.block k hk (fun e=>hne (by rw [e]))⟩ (by cases hb:v6.ownBlock with | none=>exact .inl rfl | some b=>exact .inr (fun e=>hne6 (by rw [hb,e])))).at
  have HE6:Hid (Ext w w6):=Below.trans HE5.out (c:=w6) ⟨hg6.os,hg6.tape,hg6.output,hg6.size,fun k hk=>hg6.block k (by omega) fun e=>by have:=(HY5'.out.lt k e.symm).1;omega⟩
  have hlq:(l4++List.replicate kz 0).length=l1.length:=by simp;omega
  have HTK:=take_any w.heap.size (l1++[0]) (l4++List.replicate kz 0) 1 0 g3 c3 v6 w6 (by rw [List.length_append];exact HO6.out) HQ6.out (HL1.out.2.1.1.append (Pcs.cons (by omega) Pcs.nil)) (HL4.out.2.1.1.pad kz) (by omega) (by rw [hlq];simp) (by simp;omega)
  have hl3n:(l1++[0]).length=l1.length+1:=by simp
  rw [hl3n] at HTK
  have HTK:=Lib.hid HTK
  have HLQ:=Lib.hid hlq
  clear hr6 hO6 hg6 hat6 hkz hlq hl3n hlen45 h5 hE5 HC2
  go_wp2_with (at_builtin;go_must (refine Lib.wpList_append_run _ rfl _ _ 209 3 rfl (.slice a4 l4.length c4) (.int .i64 kz) rfl rfl v6 w6 HR6.out ?_))
  refine HTK.out.mono ?_
  rintro e w7 ⟨L,b,rfl,ho7,hT,hg7⟩
  have HE7:Hid (Ext w w7):=Below.trans HE6.out (hg7.belowE (B:=w.heap.size) (by rintro k rfl;exact hg31) HE6.out.size)
  have HDF:Hid (lv L=u-v):=by
   have h:=(take_diff hT (by rw [HLQ.out];simp) (by rw [lv_pad,HL4.out.2.2.1,lv_append,HL1.out.2.2.1];omega)).1
   unfold Hid
   rw [h,lv_pad,lv_append,lv_cons,lv_nil,HL4.out.2.2.1,HL1.out.2.2.1];simp
  have HTR:=Lib.hid (trim_any w.heap.size L _ w7 ho7 hT.pcs)
  have HLL:Hid (L.length≤3000000001):=by unfold Hid;rw [hT.len];simp;omega
  clear ho7 hT hg7 HTK HR6 HQ6 HO6 HO5 HO4
  go_wp2_with fail
  refine HTR.out.mono ?_
  rintro e w8 ⟨v8,l8,rfl,h8,kk,rfl⟩
  have H8:=Lib.hid h8.out
  have HX8:=text_any l8 v8 _ H8.out.1.at H8.out.2.1 (by have:=H8.out.2.2.2;have:=HLL.out;omega)
  rw [H8.out.2.2.1,HDF.out] at HX8
  have HX8:=Lib.hid HX8
  clear h8 HTR
  go_wp2_with fail
  refine HX8.out.mono ?_
  rintro e w9 ⟨rfl,hE9⟩
  have HE9:=Lib.hid (Ext.trans (Ext.draws HE7.out kk) hE9)
  clear hE9 HX8
  go_wp2_with fail
  go_ret2
  exact ⟨rfl,HE9.out⟩
set_option maxRecDepth 100000 in
set_option maxHeartbeats 4000000 in
theorem decDivMod_lt (u v:Nat) (w:World) (hu:(numB u).size≤3000000000) (hv:(numB v).size≤3000000000) (hv0:v≠0) (ht:Pow10 w) (hs:¬ ((numB u).size≤18∧(numB v).size≤18)) (hlt:u<v) :
  Calls Tryz.prog 147 #[.string (numB u),.string (numB v)] w fun e w'=>e=.returned (.tuple #[.string ⟨#[48]⟩,.string (numB u),.int .i64 0])∧Ext w w':=by
 have HT:=Lib.hid ht
 have hz:=num_zero v
 rw [decide_eq_false hv0] at hz
 clear ht
 have HB:=Lib.hid (both_no u v w (by omega))
 clear hs
 have HC1:Hid (∀ W,Calls Tryz.prog 169 #[.string (numB u)] W fun e w'=>∃ r l,e=.returned r∧Hid (OwnP W.heap.size w' r l∧Can l∧lv l=u∧l.length≤(numB u).size)∧Ext W w'):=fun W=>cut_num u W (by omega)
 have HC2:Hid (∀ W,Calls Tryz.prog 169 #[.string (numB v)] W fun e w'=>∃ r l,e=.returned r∧Hid (OwnP W.heap.size w' r l∧Can l∧lv l=v∧l.length≤(numB v).size)∧Ext W w'):=fun W=>cut_num v W (by omega)
 go_enter Tryz.func147,Tryz.ntmps147
 go_wp2_with fail
 refine HB.out.mono ?_
 rintro e w0 ⟨rfl,hE0⟩
 have HE0:=Lib.hid hE0
 clear hE0 HB
 go_wp2_with fail
 refine (HC1.out _).mono ?_
 rintro e w1 ⟨v1,l1,rfl,h1,hE1⟩
 have HL1:=Lib.hid h1.out
 have HE1:=Lib.hid (Ext.trans HE0.out hE1)
 clear h1 hE1 HC1
 go_wp2_with fail
 refine (HC2.out _).mono ?_
 rintro e w2 ⟨v2,l2,rfl,h2,hE2⟩
 have HL2:=Lib.hid h2.out
 have HE2:=Lib.hid (Ext.trans HE1.out hE2)
 have HP1:=Lib.hid (PcsAt.ext HL1.out.1.at hE2)
 have HP2:=Lib.hid HL2.out.1.at
 have hlen1:l1.length≤3000000000:=by have:=HL1.out.2.2.2;omega
 have hlen2:l2.length≤3000000000:=by have:=HL2.out.2.2.2;omega
 have HC1':=Lib.hid HL1.out.2.1
 have HC2':=Lib.hid HL2.out.2.1
 have HV1:=Lib.hid HL1.out.2.2.1
 have HV2:=Lib.hid HL2.out.2.2.1
 obtain ⟨a1,c1,hv1,hl1,hc1,-⟩:=HP1.out.open
 obtain ⟨a2,c2,hv2,hl2,hc2,hcell2⟩:=HP2.out.open
 have hpos2:0<l2.length:=by
  refine List.length_pos_iff.2 fun e=>?_
  have:=HC2'.out.zero.2 e
  rw [HV2.out] at this
  exact hv0 this
 obtain ⟨b2,o2,rfl,-,hcell2'⟩:=hcell2 (List.length_pos_iff.1 hpos2)
 have HCELL:=Lib.hid hcell2'
 clear hcell2'
 subst hv1
 subst hv2
 have hcmp:=pcompare_any l1 l2 _ _ w2 HP1.out HP2.out HC1'.out HC2'.out (by omega) (by omega)
 rw [HV1.out,HV2.out] at hcmp
 have HCM:=Lib.hid hcmp
 clear hcmp
 clear h2 hE2 HC2 hcell2
 have hcm:cmpN u v<0:=by rw [cmpN_lt hlt];omega
 obtain ⟨cm,hcmm⟩:∃ cm,cm=cmpN u v:=⟨_,rfl⟩
 rw [← hcmm] at HCM hcm
 clear hcmm
 go_wp2_with fail
 refine HCM.out.mono ?_
 rintro e w3 ⟨rfl,hE3⟩
 have HE3:=Lib.hid (Ext.trans HE2.out hE3)
 clear hE3 HCM
 go_wp2_with fail
 go_ret3
 exact ⟨rfl,HE3.out⟩
set_option maxRecDepth 100000 in
set_option maxHeartbeats 600000 in
theorem decDivMod_ge (u v:Nat) (w:World) (hu:(numB u).size≤3000000000) (hv:(numB v).size≤3000000000) (hv0:v≠0) (ht:Pow10 w) (hs:¬ ((numB u).size≤18∧(numB v).size≤18)) (hlt:¬ u<v) :
  Calls Tryz.prog 147 #[.string (numB u),.string (numB v)] w fun e w'=>e=.returned (.tuple #[.string (numB (u / v)),.string (numB (u%v)),.int .i64 0])∧Ext w w':=by
 have HT:=Lib.hid ht
 have hz:=num_zero v
 rw [decide_eq_false hv0] at hz
 clear ht
 have HB:=Lib.hid (both_no u v w (by omega))
 clear hs
 have HC1:Hid (∀ W,Calls Tryz.prog 169 #[.string (numB u)] W fun e w'=>∃ r l,e=.returned r∧Hid (OwnP W.heap.size w' r l∧Can l∧lv l=u∧l.length≤(numB u).size)∧Ext W w'):=fun W=>cut_num u W (by omega)
 have HC2:Hid (∀ W,Calls Tryz.prog 169 #[.string (numB v)] W fun e w'=>∃ r l,e=.returned r∧Hid (OwnP W.heap.size w' r l∧Can l∧lv l=v∧l.length≤(numB v).size)∧Ext W w'):=fun W=>cut_num v W (by omega)
 go_enter Tryz.func147,Tryz.ntmps147
 go_wp2_with fail
 refine HB.out.mono ?_
 rintro e w0 ⟨rfl,hE0⟩
 have HE0:=Lib.hid hE0
 clear hE0 HB
 go_wp2_with fail
 refine (HC1.out _).mono ?_
 rintro e w1 ⟨v1,l1,rfl,h1,hE1⟩
 have HL1:=Lib.hid h1.out
 have HE1:=Lib.hid (Ext.trans HE0.out hE1)
 clear h1 hE1 HC1
 go_wp2_with fail
 refine (HC2.out _).mono ?_
 rintro e w2 ⟨v2,l2,rfl,h2,hE2⟩
 have HL2:=Lib.hid h2.out
 have HE2:=Lib.hid (Ext.trans HE1.out hE2)
 have HP1:=Lib.hid (PcsAt.ext HL1.out.1.at hE2)
 have HP2:=Lib.hid HL2.out.1.at
 have hlen1:l1.length≤3000000000:=by have:=HL1.out.2.2.2;omega
 have hlen2:l2.length≤3000000000:=by have:=HL2.out.2.2.2;omega
 have HC1':=Lib.hid HL1.out.2.1
 have HC2':=Lib.hid HL2.out.2.1
 have HV1:=Lib.hid HL1.out.2.2.1
 have HV2:=Lib.hid HL2.out.2.2.1
 obtain ⟨a1,c1,hv1,hl1,hc1,-⟩:=HP1.out.open
 obtain ⟨a2,c2,hv2,hl2,hc2,hcell2⟩:=HP2.out.open
 have hpos2:0<l2.length:=by
  refine List.length_pos_iff.2 fun e=>?_
  have:=HC2'.out.zero.2 e
  rw [HV2.out] at this
  exact hv0 this
 obtain ⟨b2,o2,rfl,-,hcell2'⟩:=hcell2 (List.length_pos_iff.1 hpos2)
 have HCELL:=Lib.hid hcell2'
 clear hcell2'
 subst hv1
 subst hv2
 have hcmp:=pcompare_any l1 l2 _ _ w2 HP1.out HP2.out HC1'.out HC2'.out (by omega) (by omega)
 rw [HV1.out,HV2.out] at hcmp
 have HCM:=Lib.hid hcmp
 clear hcmp
 clear h2 hE2 HC2 hcell2
 have hcm:¬ cmpN u v<0:=by unfold cmpN;rw [if_neg hlt];split <;> omega
 obtain ⟨cm,hcmm⟩:∃ cm,cm=cmpN u v:=⟨_,rfl⟩
 rw [← hcmm] at HCM hcm
 clear hcmm
 have HLL:Hid (l2.length≤l1.length):=Can.length_le HC2'.out HC1'.out (by rw [HV1.out,HV2.out];omega)
 by_cases h1:l2.length=1
 ·obtain ⟨x,hx⟩:=List.length_eq_one_iff.1 h1
  have hxv:x=v:=by have:=HV2.out;rw [hx,lv_cons,lv_nil] at this;omega
  rw [hxv] at hx
  clear hxv
  have g2:=HCELL.out 0 v (by rw [hx];rfl)
  have hxb:v<1000000000:=HC2'.out.1 v (by rw [hx];simp)
  have HSM:Hid (∀ W,Ext w2 W→Calls Tryz.prog 193 #[.slice a1 l1.length c1,.int .u64 v] W fun e w'=>∃ r l,e=.returned (.tuple #[r,.int .u64 ((u%v:Nat):Int)])∧Hid (OwnP W.heap.size w' r l∧Can l∧lv l=u / v∧l.length≤l1.length)∧Ext W w'):=fun W hW=>by
   have:=small_any l1 v _ W (PcsAt.ext HP1.out hW) HC1'.out.1 hxb (by omega) (by omega)
   rw [HV1.out] at this
   exact this
  have hl0:0<l2.length:=hpos2
  have HGO:Hid (∀ W,Ext w2 W→W.cell? ⟨b2,o2,none⟩=some (.int .u64 v)):=fun W hW=>hW.cell (by simpa using g2)
  obtain ⟨r,hr⟩:∃ r,r=u%v:=⟨_,rfl⟩
  have hrx:r<v:=by rw [hr];exact Nat.mod_lt _ (by omega)
  rw [← hr] at HSM
  have HRR:=Lib.hid hr
  have HRB:=Lib.hid (show r<18446744073709551616 by omega)
  rw [h1] at HCM hl0 hl2 ⊢
  clear hx g2 hr h1 hpos2 hlen2 HLL
  go_wp2_with fail
  refine HCM.out.mono ?_
  rintro e w3 ⟨rfl,hE3⟩
  have HE3:=Lib.hid (Ext.trans HE2.out hE3)
  have g3:=HGO.out _ hE3
  have HSM3:=Lib.hid (HSM.out _ hE3)
  clear hE3 HCM HSM
  go_wp2_with fail
  refine HSM3.out.mono ?_
  rintro e w4 ⟨v4,l4,rfl,h4,hE4⟩
  have HL4:=Lib.hid h4.out
  have HE4:=Lib.hid (Ext.trans HE3.out hE4)
  have HX4:=text_any l4 v4 w4 HL4.out.1.at HL4.out.2.1 (by have:=HL4.out.2.2.2;omega)
  rw [HL4.out.2.2.1] at HX4
  have HX4:=Lib.hid HX4
  have HOR:Hid (∀ W,Ext w W→Calls Tryz.prog 168 #[.int .u64 r] W fun e w'=>e=.returned (.string (numB r))∧Ext W w'):=fun W hW=>decOf_any r W HRB.out (HT.out.ext hW)
  clear h4 hE4 HSM3 g3
  go_wp2_with fail
  refine HX4.out.mono ?_
  rintro e w5 ⟨rfl,hE5⟩
  have HE5:=Lib.hid (Ext.trans HE4.out hE5)
  clear hE5 HX4
  go_wp2_with fail
  refine (HOR.out _ HE5.out).mono ?_
  rintro e w6 ⟨rfl,hE6⟩
  have HE6:=Lib.hid (Ext.trans HE5.out hE6)
  clear hE6 HOR
  go_wp2_with fail
  go_ret3
  exact ⟨by rw [← HRR.out];rfl,HE6.out⟩
 ·have h1':((l2.length:Int) == 1)=false:=by rw [beq_eq_false_iff_ne];omega
  have HQ2:=Lib.hid (show 2≤l2.length by omega)
  clear h1
  have HDV:Hid (∀ W,Ext w2 W→Calls Tryz.prog 194 #[.slice a1 l1.length c1,.slice (some ⟨b2,o2,none⟩) l2.length c2] W fun e w'=>∃ r1 m1 r2 m2,e=.returned (.tuple #[r1,r2])∧Hid (OwnP W.heap.size w' r1 m1∧Can m1∧lv m1=u / v∧m1.length≤l1.length+2)∧Hid (OwnP W.heap.size w' r2 m2∧Can m2∧lv m2=u%v∧m2.length≤l1.length+2)∧Ext W w'):=fun W hW=>by
   have:=divide_any l1 l2 _ _ W (PcsAt.ext HP1.out hW) (PcsAt.ext HP2.out hW) HC1'.out HC2'.out HQ2.out HLL.out (by omega)
   rw [HV1.out,HV2.out] at this
   exact this
  go_wp2_with fail
  refine HCM.out.mono ?_
  rintro e w3 ⟨rfl,hE3⟩
  have HE3:=Lib.hid (Ext.trans HE2.out hE3)
  have HD3:=Lib.hid (HDV.out _ hE3)
  clear hE3 HCM HDV
  go_wp2_with fail
  refine HD3.out.mono ?_
  rintro e w4 ⟨q1,m1,q2,m2,rfl,h4,h5,hE4⟩
  have HL4:=Lib.hid h4.out
  have HL5:=Lib.hid h5.out
  have HE4:=Lib.hid (Ext.trans HE3.out hE4)
  have HX4:=text_any m1 q1 w4 HL4.out.1.at HL4.out.2.1 (by have:=HL4.out.2.2.2;omega)
  rw [HL4.out.2.2.1] at HX4
  have HX4:=Lib.hid HX4
  have HX5:Hid (∀ W,Ext w4 W→Calls Tryz.prog 172 #[q2] W fun e w'=>e=.returned (.string (numB (u%v)))∧Ext W w'):=fun W hW=>by
   have:=text_any m2 q2 W (PcsAt.ext HL5.out.1.at hW) HL5.out.2.1 (by have:=HL5.out.2.2.2;omega)
   rw [HL5.out.2.2.1] at this
   exact this
  clear h4 h5 hE4 HD3
  go_wp2_with fail
  refine HX4.out.mono ?_
  rintro e w5 ⟨rfl,hE5⟩
  have HE5:=Lib.hid (Ext.trans HE4.out hE5)
  have HX55:=Lib.hid (HX5.out _ hE5)
  clear hE5 HX4 HX5
  go_wp2_with fail
  refine HX55.out.mono ?_
  rintro e w6 ⟨rfl,hE6⟩
  have HE6:=Lib.hid (Ext.trans HE5.out hE6)
  clear hE6 HX55
  go_wp2_with fail
  go_ret3
  exact ⟨rfl,HE6.out⟩
set_option maxRecDepth 100000 in
set_option maxHeartbeats 4000000 in
theorem decDivMod_any (u v:Nat) (w:World) (hu:(numB u).size≤3000000000) (hv:(numB v).size≤3000000000) (hv0:v≠0) (ht:Pow10 w) :
  Calls Tryz.prog 147 #[.string (numB u),.string (numB v)] w fun e w'=>e=.returned (.tuple #[.string (numB (u / v)),.string (numB (u%v)),.int .i64 0])∧Ext w w':=by
 have HT:=Lib.hid ht
 have hz:=num_zero v
 rw [decide_eq_false hv0] at hz
 clear ht
 by_cases hs:(numB u).size≤18∧(numB v).size≤18
 ·have HB:=Lib.hid (both_yes u v w hs.1 hs.2)
  have h1:=num_small hs.1
  have h2:=num_small hs.2
  obtain ⟨q,hq⟩:∃ q,u / v=q:=⟨_,rfl⟩
  obtain ⟨r,hr⟩:∃ r,u%v=r:=⟨_,rfl⟩
  have hqb:q≤u:=by rw [← hq];exact Nat.div_le_self _ _
  have hrb:r<v:=by rw [← hr];exact Nat.mod_lt _ (by omega)
  have hqi:(u:Int) / (v:Int)=(q:Int):=by rw [← hq];exact (Int.natCast_ediv _ _).symm
  have hri:(u:Int)%(v:Int)=(r:Int):=by rw [← hr];exact (Int.natCast_emod _ _).symm
  have hvz:((v:Int) == 0)=false:=by rw [beq_eq_false_iff_ne];omega
  have hvz2:¬ (v:Int)=0:=by omega
  have HO:Hid (∀ x:Nat,x<18446744073709551616→∀ W,Ext w W→Calls Tryz.prog 168 #[.int .u64 x] W fun e w'=>e=.returned (.string (numB x))∧Ext W w'):=fun x hx W hW=>decOf_any x W hx (HT.out.ext hW)
  have hqw:IntKind.u64.wrap (q:Int)=(q:Int):=IntWalk.u64_in _ (by omega)
  have hrw:IntKind.u64.wrap (r:Int)=(r:Int):=IntWalk.u64_in _ (by omega)
  have hqt:(u:Int).tdiv (v:Int)=(q:Int):=by rw [Int.tdiv_eq_ediv_of_nonneg (by omega),hqi]
  have hrt:(u:Int).tmod (v:Int)=(r:Int):=by rw [Int.tmod_eq_emod_of_nonneg (by omega),hri]
  rw [hq,hr]
  have HQB:Hid (q<18446744073709551616∧r<18446744073709551616):=by unfold Hid;omega
  clear hq hr
  go_enter Tryz.func147,Tryz.ntmps147
  go_wp2_with fail
  refine HB.out.mono ?_
  rintro e w1 ⟨rfl,hE1⟩
  have HE1:=Lib.hid hE1
  clear hE1 HB
  go_wp2_with fail
  have HOQ:Hid (∀ W,Ext w W→Calls Tryz.prog 168 #[.int .u64 q] W fun e w'=>e=.returned (.string (numB q))∧Ext W w'):=HO.out q HQB.out.1
  have HOR:Hid (∀ W,Ext w W→Calls Tryz.prog 168 #[.int .u64 r] W fun e w'=>e=.returned (.string (numB r))∧Ext W w'):=HO.out r HQB.out.2
  have HE:Hid (Ext w w1.drew):=Ext.trans HE1.out (Ext.drew _)
  go_region_with (first
   | (go_at_call 168;with_reducible refine (HOQ.out _ HE.out).mono ?_;rintro e w5 ⟨rfl,hE5⟩;have HE2:=HE;clear HE;have HE:=Lib.hid (Ext.trans HE2.out hE5);clear hE5 HE2)
   | (go_at_call 168;with_reducible refine (HOR.out _ HE.out).mono ?_;rintro e w5 ⟨rfl,hE5⟩;have HE2:=HE;clear HE;have HE:=Lib.hid (Ext.trans HE2.out hE5);clear hE5 HE2))
  all_goals
   go_wp2_with fail
   go_ret3
   exact ⟨rfl,HE.out⟩
 ·by_cases hlt:u<v
  ·have hN0:numB 0=⟨#[48]⟩:=by unfold numB;rw [Lib.decDigits_one (by omega)];rfl
   refine (decDivMod_lt u v w hu hv hv0 HT.out hs hlt).mono fun e w' ⟨h,hE⟩=>⟨?_,hE⟩
   rw [h,Nat.div_eq_of_lt hlt,Nat.mod_eq_of_lt hlt,hN0]
  ·exact decDivMod_ge u v w hu hv hv0 HT.out hs hlt
end Go.Proofs.YtjlkkofmojgipaaGreatDoor
