import Derived.Test.YtoonaddcfakamaaGreatDoorYAT
import Derived.Test.YtoonaddcfakamaaGreatDoorYAF
import Derived.Deep.CutRange
import Derived.Test.YtoonaddcfakamaaGreatDoorShelfB
import Derived.Test.YtoonaddcfakamaaGreatDoorYAA
import Derived.Test.YtoonaddcfakamaaGreatDoorYAQ
import Derived.Lib.SliceRun
import Derived.Test.YtoonaddcfakamaaGreatDoorYAR
import Derived.Laws.AppendOwnNone
import Derived.Test.YtoonaddcfakamaaGreatDoorYAS
import Derived.Test.YtoonaddcfakamaaGreatDoorYAN
import Derived.Test.YtoonaddcfakamaaGreatDoorYAD
import Derived.Test.YtoonaddcfakamaaGreatDoorYAL
import Derived.Test.YtoonaddcfakamaaGreatDoorYAM
set_option linter.unusedVariables false
set_option linter.unusedSimpArgs false
set_option maxRecDepth 1000000
set_option maxHeartbeats 16000000
namespace Go.Proofs.YtoonaddcfakamaaGreatDoor
open Go.RowKit Go.Proofs.Tryz
def dB (q:Rat) (n k:Nat):List Value:=bn (List.replicate k q)++List.replicate (2*(n-k)) (.string ⟨#[]⟩)
theorem v4_ (q:Rat) {n k:Nat} (h:k<=n):(dB q n k).length=n*2:=by
 unfold dB;rw [oJ,e8];simp;omega
theorem Z3S (q:Rat) (n:Nat):dB q n n=bn (List.replicate n q):=by simp [dB]
theorem Z2b (q:Rat) (n:Nat):dB q n 0=List.replicate (n*2) (.string ⟨#[]⟩):=by simp [dB,bn,Nat.mul_comm]
theorem o3_ (q:Rat) {n k m:Nat} (h:k+m<=n):(dB q n k).take (k*2)++bn (List.replicate m q)++(dB q n k).drop (k*2+(bn (List.replicate m q)).length)=dB q n (k+m):=by
 have h1:(bn (List.replicate k q)).length=k*2:=by rw [e8];simp
 unfold dB;rw [List.take_left' h1,List.drop_append,List.drop_eq_nil_of_le (by omega),h1,List.nil_append,List.drop_replicate,e8,List.length_replicate,show k*2+m*2-k*2=m*2 by omega,show 2*(n-k)-m*2=2*(n-(k+m)) by omega,<- List.replicate_append_replicate (n:=k) (m:=m),Y7_]
theorem Z3T (q:Rat) {n k m:Nat} (hm:m<=k) {j:Nat} {v:Value} (h:(bn (List.replicate m q))[j]?=some v):(dB q n k)[j]?=some v:=by
 unfold dB;have hj:=(nt.1 h).1;rw [e8] at hj;rw [oB (by rw [e8];simp at hj |-;omega)];have e:List.replicate k q=List.replicate m q++List.replicate (k-m) q:=by rw [List.replicate_append_replicate];congr 1;omega
 rw [e,Y7_,oB (by rw [e8];exact hj)];exact h
theorem E4_ (l:List Rat):∀ v∈bn l,v.oneCell'=true:=by
 intro z hz;unfold bn at hz;obtain ⟨l,hl,hz⟩:=List.mem_flatten.1 hz;obtain ⟨q,-,rfl⟩:=List.mem_map.1 hl;simp only [List.mem_cons,List.not_mem_nil,or_false] at hz;rcases hz with rfl | rfl <;> rfl
theorem Z6e (s:Value) (n:Nat):(madeCells #[s,s] n).toList=List.replicate n s:=by
 apply List.ext_getElem;·simp [madeCells]
 ·intro j h1 h2;have hj:j<n:=by simpa using h2
  simp only [madeCells,Array.toList_map,List.getElem_map,List.getElem_replicate];have h3:j%2=0\/j%2=1:=by omega
  rcases h3 with h3 | h3 <;> simp [h3]
theorem RepBlk.own {B g n:Nat} {w:World} {q:Rat} (h:w.heap[g]?=some (.cells (dB q n n).toArray 246 (0,0))) (hB:B<=g) (hn:n<=1000):dQ B w (.slice (some ⟨g,0,none⟩) n n) (List.replicate n q):=by
 refine ⟨by rw [e8],.inr ⟨g,n,_,by simp,hB,h,by simp,by unfold maxLen;omega,?_,?_⟩⟩;·simp [v4_ q (n9 n)]
 ·rw [Z3S];simp;rw [List.take_of_length_le (by rw [e8];simp)]
theorem A1_ (q:Rat) (n:Nat) (hn:n<=1000) (v:Value) (w:World) (h:dJ w v [q]) :
  Calls prog 297 #[v,.int .i64 (n:Int)] w fun e w'=>∃ g,e=.returned (.slice (some ⟨g,0,none⟩) n n)/\dQ w.heap.size w' (.slice (some ⟨g,0,none⟩) n n) (List.replicate n q)/\aA w w':=by
 obtain ⟨i0,hi,oy,hz1,hz2⟩:=info_parts Z1p;have HI:=np hi;have HZ0:=np oy;have HZ1:=np hz1;have HZ2:=np hz2;clear hi oy hz1 hz2;obtain ⟨a,c,rfl,h1,h2,-,hc⟩:=h.open;obtain ⟨b,off,rfl,hb,hcell⟩:=hc (by omega) (by simp);have CN:Hid (∀ W,aA w W->∀ j v,(bn (List.replicate (Nat.min 1 n) q))[j]?=some v->W.cell? ((⟨b,off,none⟩:Addr).add j)=some v):=fun W hW j v hv=>by
  obtain ⟨u,-,rfl,hu⟩:=hcell 0 q rfl;have hj:=(nt.1 hv).1;rw [e8] at hj;have o4:Nat.min 1 n=1:=by
   have:(List.replicate (Nat.min 1 n) q).length=Nat.min 1 n:=(by simp);have h0:Nat.min 1 n<=1:=Nat.min_le_left _ _;omega
  rw [o4] at hv hj;rw [show (⟨b,off,none⟩:Addr).add j=⟨b,off+(0*2+j),none⟩ by unfold Addr.add;split <;> simp_all];refine hW.cell ((hu j (by simpa using hj)).trans ?_);exact hv
 simp only [List.length_cons,List.length_nil,Nat.zero_add] at h1 |-;clear h hc hcell;unfold maxLen at h2;have q1:¬ (n:Int)<0:=by omega
 have tA:Hid (∀ W,Calls prog 213 #[.int .u64 1,.int .u64 (n:Int)] W fun e w'=>e=.returned (.tuple #[.int .u64 0,.int .u64 (n:Int)])/\w'=W):=fun W=>by
  have:=bits_Mul 1 n (by decide) (by omega) W;rw [Nat.one_mul,Nat.div_eq_of_lt (by omega),Nat.mod_eq_of_lt (by omega)] at this;exact this
 have q2:IntKind.u64.wrap (n:Int)=(n:Int):=by rw [IntKind.wrap_u64];omega
 have q3:IntKind.i64.wrap (n:Int)=(n:Int):=by rw [IntKind.wrap_i64];omega
 have q4:¬ (9223372036854775807:Int)<(n:Int):=by omega
 go_enter func297,ntmps297
 go_wp2_with fail;refine (tA _).mono ?_;rintro e w1 ⟨rfl,rfl⟩;clear tA;go_wp2_with (at_make;refine wpList_make_full _ rfl _ _ 267 rfl w1.heap.size 246 i0 (.agg #[.string ⟨#[]⟩,.string ⟨#[]⟩]) 2 underlying267 HI HZ0 HZ1 _ _ _ _ n rfl rfl rfl rfl ?c1 ?c2 ?c3 ?_)
 any_goals (first | (rw [HZ2.out];omega) | (unfold maxLen;omega) | exact n9 _)
 intro w3 hown oV;have hs2:(i0.zero=some (.agg #[.string ⟨#[]⟩,.string ⟨#[]⟩])):=HZ0.out;have HG3:Hid (w3.heap[w1.heap.size]?=some (.cells (dB q n 0).toArray 246 (0,0))/\aA w1 w3):=by
  refine ⟨?_,jI oV⟩;rcases hown.2 with ⟨hv,-⟩ | ⟨g',cap,cur,hv,-,hg,-,-,h3,h4⟩
  ·simp at hv
  ·simp only [Value.slice.injEq,Option.some.injEq,Addr.mk.injEq] at hv;obtain ⟨⟨rfl,-,-⟩,-,rfl⟩:=hv;rw [hg,Z2b];congr 2;have h5:cur.toList=List.replicate (n*2) (.string ⟨#[]⟩):=by
    rw [List.take_of_length_le (by simp [h3])] at h4;rw [h4];exact Z6e _ _
   rw [<- h5]
 clear hown oV hs2;have pY:Hid ((bn (List.replicate (Nat.min 1 n) q)).length=Nat.min 1 n*2/\0*2+(bn (List.replicate (Nat.min 1 n) q)).length<=(dB q n 0).toArray.size):=by
  have h0:Nat.min 1 n<=n:=Nat.min_le_right _ _;refine ⟨by rw [e8];simp,?_⟩;simp only [List.size_toArray];rw [e8,v4_ q (Nat.zero_le n)];simp;omega
 obtain ⟨k0,qx⟩:=oO (Nat.min 1 n);have BN:k0<=n:=by rw [qx];exact Nat.min_le_right _ _
 have BM:0<n->0<k0:=fun h=>by rw [qx];exact Nat.lt_min.2 ⟨by omega,h⟩
 have HK:=np (And.intro BN BM);have HK0:=np qx;clear qx BN BM;have qv:Hid ((((dB q n 0).toArray.toList.take 0)++bn (List.replicate (Nat.min 1 n) q)++(dB q n 0).toArray.toList.drop (0+(bn (List.replicate (Nat.min 1 n) q)).length)).toArray=(dB q n k0).toArray):=by
  have:=o3_ q (n:=n) (k:=0) (m:=k0) (by have:=HK.1;omega);unfold Hid;rw [HK0.out] at this |-;simpa using congrArg List.toArray this
 obtain ⟨W4,Bf⟩:=oO (w3.setRow w1.heap.size (((dB q n 0).toArray.toList.take 0)++bn (List.replicate (Nat.min 1 n) q)++(dB q n 0).toArray.toList.drop (0+(bn (List.replicate (Nat.min 1 n) q)).length)).toArray);have y8:(Builtin.copy_ #[267,267] 3 #[.slice (some ⟨w1.heap.size,0,none⟩) n n,.slice (some ⟨b,off,none⟩) 1 c]).run prog w3=.ok (.int .i64 (k0:Int)) W4:=by
  rw [Bf,HK0.out];exact o8_ w3 _ _ _ 246 w1.heap.size 0 n n ⟨b,off,none⟩ 1 c (dB q n 0).toArray 246 (bn (List.replicate (Nat.min 1 n) q)) 2 underlying267 (by kernel_rfl) HG3.1 pY.1 (CN _ HG3.2) (by have:=pY.2;simpa using this) (E4_ _)
 have HG4:Hid (W4.heap[w1.heap.size]?=some (.cells (dB q n k0).toArray 246 (0,0))/\aA w1 W4):=by
  rw [Bf,qv.out];exact ⟨setRow_heap w3 _ _ _ _ _ HG3.1,below_setRow HG3.2 (n9 _) _⟩
 clear Bf qv pY CN HK0;go_wp2_with fail;clear y8
 go_loopw [8] (fun t wr=>∃ k:Nat,k<=n/\(0<n->0<k)/\t=.int .i64 (k:Int)/\Hid (wr.heap[w1.heap.size]?=some (.cells (dB q n k).toArray 246 (0,0))/\aA w1 wr)) (fun t _=>n-(intOf t).toNat)
 case atStart=>exact ⟨k0,HK.1,HK.2,rfl,HG4⟩
 case round =>
  obtain ⟨k,hk,qx,rfl,HG⟩:=hrel;obtain ⟨wo,rfl⟩:∃ wo:World,wo=wr:=⟨_,rfl⟩;by_cases hlt:k<n
  ·skip;obtain ⟨m,hm⟩:=oO (Nat.min k (n-k));have ph:m<=k:=by rw [hm];exact Nat.min_le_left _ _
   have qm:m<=n-k:=(by rw [hm];exact Nat.min_le_right _ _);have tI:0<m:=(by rw [hm];exact Nat.lt_min.2 ⟨qx (by omega),by omega⟩);have MZ:Hid (m=Nat.min k (n-k)):=hm;have p1:(k:Int)<=(n:Int):=(by omega);have p2:(0:Int)<=(k:Int):=(by omega);have p3:IntKind.i64.wrap ((k:Int)+(m:Int))=(k:Int)+(m:Int):=(by rw [IntKind.wrap_i64];omega);have DE:wo.drew.heap[w1.heap.size]?=some (.cells (dB q n k).toArray 246 (0,0)):=HG.1;obtain ⟨W5,tm⟩:=oO (wo.drew.setRow w1.heap.size (((dB q n k).toArray.toList.take (k*2))++bn (List.replicate m q)++(dB q n k).toArray.toList.drop (k*2+(bn (List.replicate m q)).length)).toArray);have y8:(Builtin.copy_ #[267,267] 3 #[.slice (some ⟨w1.heap.size,k*2,none⟩) (n-k) (n-k),.slice (some ⟨w1.heap.size,0,none⟩) k n]).run prog wo.drew=.ok (.int .i64 (m:Int)) W5:=by
    rw [tm,hm]
    exact o8_ wo.drew _ _ _ 246 w1.heap.size (k*2) (n-k) (n-k) ⟨w1.heap.size,0,none⟩ k n (dB q n k).toArray 246 (bn (List.replicate (Nat.min k (n-k)) q)) 2 underlying267 (by kernel_rfl) DE (by rw [e8];simp) (fun j v hv=>by
     rw [show (⟨w1.heap.size,0,none⟩:Addr).add j=⟨w1.heap.size,j,none⟩ by unfold Addr.add;split <;> simp_all];have:=Z3T q (n:=n) (k:=k) (Nat.min_le_left _ _) hv;simp only [World.cell?,DE]
     simpa using this) (by simp only [List.size_toArray];rw [e8,v4_ q hk,List.length_replicate,<- hm];omega) (E4_ _)
   have HG5:Hid (W5.heap[w1.heap.size]?=some (.cells (dB q n (k+m)).toArray 246 (0,0))/\aA w1 W5):=by
    rw [tm];refine ⟨?_,below_setRow (HG.2.trans (aA.drew _)) (n9 _) _⟩;rw [setRow_heap wo.drew _ _ _ _ _ DE];have:=o3_ q (n:=n) (k:=k) (m:=m) (by omega);rw [<- this]
   have q5:(k:Int)<(n:Int):=(by omega);have q6:¬ n=k:=(by omega);clear tm hm DE
   go_upto_region 9 with (fail)
   refine ks (fun _=>True) 7 (by kernel_rfl) trivial (fun oR=>?_);refine rA [0,1,2,3,4,5,6] ?_
   iterate 7 ((refine rW (v:=?_) (by rfl) (Or.inl ⟨by rfl,?_⟩) ?_;rotate_left;·((intro w');(try go_simp);(try with_reducible rfl)));(try simp only [Act.put,ao,aq,aw]))
   refine rE ?_;refine dz 7 (by kernel_rfl) rfl (fun K hK=>?_);go_simp;refine hK _ _ trivial (fun oR=>?_);clear hK K
   (try simp only [Act.put,ao,aq,aw])
   refine tW (v:=?_) 8 rfl (Or.inl ⟨by rfl,?_⟩) ?_;rotate_left;·((intro w');(try go_simp);(try with_reducible rfl))
   (try simp only [Act.put,ao,aq,aw])
   refine gX 9 (by kernel_rfl) (by kernel_rfl) (by kernel_rfl) rfl (fun K hK=>?_);go_simp;refine hK _ _ ?_;clear hK K
   (try simp only [Act.put,ao,aq,aw])
   clear y8 oR;go_wp2_with fail;go_roundw
   case rel=>exact ⟨k+m,by omega,fun _=>by omega,by go_num,HG5⟩
   case measure=>simp [intOf];omega
  ·obtain rfl:k=n:=(by omega);go_wp2_with fail;go_ret;exact ⟨_,rfl,RepBlk.own HG.1 (n9 _) hn,HG.2⟩
theorem Z0n (xs:oQ) (i B:Nat) (x:Int) (v:Value) (w:World) (hx:xs[i]?=some x) (hv:aK w v xs) (hb:w.cell? ⟨B,0,none⟩=some v) (ht:aZ w) :
  Calls prog 296 #[.int .i64 (i:Int),.pointer (some ⟨B,0,none⟩)] w fun e w'=>∃ u,e=.returned u/\dJ w' u [(x:Rat)]/\aA w w':=by
 obtain ⟨a,c,rfl,h1,h2,-,hbd,hc⟩:=hv.open;have hi:=(nt.1 hx).1;obtain ⟨b,off,rfl,rN,hcell⟩:=hc (by intro e;rw [e] at hi;simp at hi);have g1:=hcell i x hx;obtain ⟨b1,b2⟩:=hbd x (nw hx);have HOF:=np (j0 x w b1 b2 ht);have p1:(0:Int)<=(i:Int):=by omega
 have p2:(i:Int)<(xs.length:Int):=by omega
 clear hv hc hcell hx ht hbd
 go_enter func296,ntmps296
 go_wp2_with fail;refine o_ HOF ?_;intro w1 HE1;clear g1 hb;go_wp2_with fail;go_ret;have:=dJ.one w1 (x:Rat) 246;rw [show ((x:Rat)).num=x from rfl,show ((x:Rat)).den=1 from rfl,iF] at this;exact ⟨_,rfl,this,HE1.trans (aA.alloc _ _)⟩
theorem bp.form2 {α:Type} {K:gV α} {e:TypeId} {w:World} {ob base:Nat} {u:Value} {tags:List (Nat×Nat)} {m:List (List α)} (h:bp K e w ob base u tags m):∃ a c,u=.slice a m.length c:=by
 rcases h.own.2 with ⟨rfl,hn⟩ | ⟨g,cap,cur,rfl,hb,hg,h1,h2,h3,h4⟩
 ·exact ⟨none,0,by rw [hn]⟩
 ·exact ⟨_,cap,rfl⟩
def eH (xss:oP) (right:oQ):List (List Rat):=ft xss (fun i=>[((right.getD i 0:Int):Rat)]) xss.length
def iu (xss:oP) (right:oQ):eu:=ah (eH xss right) (bJ xss)
def j6 (s:eu) (n:Nat):Bool:=(s.m.drop s.lead.length).any fun r=>decide (r.getD n 0≠0)
def gj (s:eu) (n:Nat):Nat->List Rat
 | 0=>List.replicate n 0
 | i+1=>(gj s n i).set (s.lead.getD i 0) (aJ s.m i n)
theorem nl (s:eu) (n:Nat):∀ i,(gj s n i).length=n
 | 0=>by simp [gj]
 | i+1=>by unfold gj;rw [List.length_set];exact nl s n i
def mD (s:eu) (n:Nat):List Rat:=if j6 s n then [] else gj s n s.lead.length
def j7 (s:eu) (n:Nat):Int:=if j6 s n then 3 else if s.lead.length<n then 2 else 1
theorem Z1D (m:List (List Rat)):∀ c,∀ x∈(ah m c).lead,x<c
 | 0,x,hx=>by simp [ah] at hx
 | c+1,x,hx=>by
  have ih:=Z1D m c;have hx:x∈(cD c (ah m c)).lead:=hx;unfold cD at hx;simp only at hx
  split at hx
  ·have:=ih x hx;omega
  ·rcases List.mem_append.1 hx with hx | hx;·have:=ih x hx;omega
   ·simp at hx;omega
theorem H9_ {xss:oP} {right:oQ} {n:Nat} (h:∀ r∈xss,r.length=n):bw (n+1) (eH xss right):=by
 intro r hr;unfold eH ft at hr;obtain ⟨k,hk,rfl⟩:=List.mem_map.1 hr;have hk2:k<xss.length:=by simpa using hk
 rw [oJ,kt,nu,ns hk2];simp;exact h _ (List.getElem_mem hk2)
theorem Z2p {s:eu} {n q:Nat} {r:List Rat} (h:s.m[s.lead.length+q]?=some r) (hr:r.getD n 0≠0):j6 s n=true:=by
 unfold j6;rw [List.any_eq_true];exact ⟨r,nw (by rw [oI];exact h),by simpa using hr⟩
theorem i5_ {s:eu} {n:Nat} (h:∀ q r,s.m[s.lead.length+q]?=some r->r.getD n 0=0):j6 s n=false:=by
 unfold j6;rw [List.any_eq_false];intro r hr;obtain ⟨q,hq⟩:=List.getElem?_of_mem hr;rw [oI] at hq;simpa using h q r hq
theorem Z2r (xss:oP) (right:oQ) (v ur:Value) (w:World) (h:aV w v xss) (hk:aK w ur right) (hE:cM xss=0) (hpos:0<xss.length) (zv:right.length=xss.length) (qo:∀ x∈right,-1000000000<=x/\x<=1000000000)
  (og:∀ c,c<bJ xss->fi 2500 (ah (eH xss right) c).m/\RS 9000 (ah (eH xss right) c).det) (ht:aZ w) :
  Calls prog 220 #[v,ur] w fun e w'=>∃ x,e=.returned (.tuple #[x,.int .i64 (j7 (iu xss right) (bJ xss)),.int .i64 0])/\dJ w' x (mD (iu xss right) (bJ xss))/\aA w w':=by
 obtain ⟨hl,qX⟩:=j8 hE;have EN:bJ xss<=12:=by
  cases xss with
  | nil=>simp at hpos
  | cons r l=>exact (qX r (by simp)).2.1
 have hrl:∀ r∈xss,r.length=bJ xss:=fun r hr=>(qX r hr).1;have HCH:=np (fun W hW=>mF xss v W (h.ext (w':=W) hW));rw [hE] at HCH;have qv:Hid (∀ W,aA w W->Calls prog 200 #[v] W fun e w'=>e=.returned (.int .i64 (bJ xss:Int))/\w'=W):=fun W hW=>(Y8_ xss v W (h.ext hW)).mono fun _ _ ⟨a,b⟩=>⟨a,b.symm⟩
 have HANY:Hid (∀ W,aA w W->oL 117 #[ur,.func (.func 199) #[] #[]] W (.bool false)):=fun W hW=>by
  have:=Z1_ right ur 199 #[] (fun x=>!de x) W (hk.ext hW) (enters_of func199 (by kernel_rfl) rfl) (fun W x _ _=>(J7_ x W).mono fun _ _ ⟨he,hw⟩=>⟨he,hw▸aA.refl _⟩)
  rw [show right.any (fun x=>!de x)=false from by
   rw [List.any_eq_false];intro x hx;have:=(nA x).2 (qo x hx)
   simp [this]] at this
  exact this
 have yQ:Hid (∀ W B,aA w W->W.cell? ⟨B,0,none⟩=some ur->Calls prog 204 #[v,.func (.func 296) #[] #[.pointer (some ⟨B,0,none⟩)]] W fun e w'=>∃ u tags,e=.returned u/\bp iq 267 w' W.heap.size W.heap.size u tags (eH xss right)/\aA W w'):=fun W B hW hb=>by
  refine v6_ xss v 296 #[.pointer (some ⟨B,0,none⟩)] (fun i=>[((right.getD i 0:Int):Rat)]) W (h.ext hW) (by omega) (fun r hr=>by rw [hrl r hr];omega) (fun i r hr=>⟨by simp,by simp⟩) (enters_of func296 (by kernel_rfl) rfl) (fun i X hi hX=>?_) (ht.ext hW);have hx:right[i]?=some (right.getD i 0):=by rw [nu,ns (by omega)];rfl
  exact Z0n right i B _ ur X hx ((hk.ext hW).ext hX) (hX.cell hb) ((ht.ext hW).ext hX)
 have HRE:Hid (∀ u tags W w1,bp iq 267 w1 W.heap.size W.heap.size u tags (eH xss right)->aA w W->aA W w1->Calls prog 203 #[u,.int .i64 (bJ xss:Int)] w1 fun e w'=>∃ v,e=.returned (.tuple #[v,bN (iu xss right).det])/\Z5o W w1 w' u v tags (eH xss right) (bJ xss)):=fun u tags W w1 hO hW h1 =>
  U5_ (eH xss right) (bJ xss) (bJ xss+1) u tags W w1 hO h1 (H9_ hrl) (by omega) (by omega) (by unfold eH;rw [nX];omega) og (ht.ext hW) (fun e=>by have:(eH xss right).length=xss.length:=nX _ _ _;rw [e] at this;simp at this;omega)
 have HML:Hid ((eH xss right).length=xss.length):=nX _ _ _;have Gb:Hid (eH xss right≠[]):=fun e=>by have:=HML.out;rw [e] at this;simp at this;omega
 have HSH:Hid (bw (bJ xss+1) (iu xss right).m/\(iu xss right).m.length=xss.length/\(iu xss right).lead.length<=xss.length):=by
  obtain ⟨k1,k2,k3⟩:=nV (H9_ (right:=right) hrl) (bJ xss);exact ⟨k1,by show (ah (eH xss right) (bJ xss)).m.length=_;rw [k2];exact HML,by show (ah (eH xss right) (bJ xss)).lead.length<=_;rw [<- HML.out];exact k3⟩
 have CY:Hid (∀ x∈(iu xss right).lead,x<bJ xss):=Z1D _ _;obtain ⟨a,c,rfl,h1,h2,-,-⟩:=aP.open h;obtain ⟨ar,cr,rfl,h3,h4,-,-,-⟩:=hk.open;obtain ⟨L,hL⟩:=oO xss.length;obtain ⟨n,hn⟩:=oO (bJ xss);obtain ⟨s,hs⟩:=oO (iu xss right);have HS:Hid (s=ah (eH xss right) n):=by rw [hs,hn];rfl
 rw [<- hs] at HRE HSH CY |-;rw [<- hL] at HCH qv HSH HML h1 hpos hl;rw [<- hn] at qv HRE HSH CY EN |-;rw [zv] at yQ;rw [zv,<- hL] at HANY h3 |-;rw [<- hL] at yQ;obtain ⟨ld,qn⟩:=oO s.lead.length;have HLD:=np qn;have KA:ld<=L:=by rw [qn];exact HSH.2.2
 unfold maxLen at h2 h4;have z1:((L:Int) != (L:Int))=false:=by simp
 clear h hk hE og ht qX hn hL hs hrl zv qo qn
 go_enter func220,ntmps220
 obtain ⟨W1,oZ⟩:=oN (w.alloc (.cells #[.slice ar L cr] 36));have ov:aA w W1:=by rw [<- oZ];exact aA.alloc _ _
 have c1:W1.cell? ⟨w.heap.size,0,none⟩=some (.slice ar L cr):=by rw [<- oZ,World.cell?_alloc_new];rfl
 have HX1:=np ov;clear ov;go_wp2_with fail;refine (HCH _ HX1).mono ?_;rintro e w2 ⟨rfl,hE2⟩;have c2:=hE2.cell c1;have HX2:=np (aA.trans HX1 hE2);clear hE2 c1 oZ HCH;go_wp2_with fail;refine (HANY _ HX2).mono ?_;rintro e w3 ⟨rfl,oT⟩;have c3:=oT.cell c2;have HX3:=np (aA.trans HX2 oT);clear oT c2 HANY;go_wp2_with fail;refine (qv _ HX3).mono ?_;rintro e w4 ⟨rfl,rfl⟩;clear qv;go_wp2_with fail;refine (yQ _ _ HX3 c3).mono ?_;rintro e w5 ⟨u,tags,rfl,hO,oX⟩;obtain ⟨au,cu,hu⟩:=hO.form2;rw [HML.out] at hu;have HO:=np hO;have HE5:=np oX;subst hu;clear hO oX c3 yQ;go_wp2_with fail;refine (HRE _ tags w4 w5 HO HX3 HE5).mono ?_;rintro e w6 ⟨vl,rfl,hR⟩;have hRI:=hR.lead;rw [<- HS.out] at hRI;obtain ⟨av,cv,hv,-,-⟩:=hRI.form;rw [<- HLD.out] at hv;subst hv;have HLE:=np hRI;obtain ⟨d,hd⟩:=oO s.det;rw [<- hd];rw [show bN d=.agg #[.string (aB d.num),.string (aE d.den)] from rfl];obtain ⟨g,tags',cap,hu,hM,FA,KZ,hlow⟩:=hR.mat Gb;have HX6:=np (aA.trans HX3 hR.ext);rw [<- HS.out] at hM;have HM:=np hM;simp only [Value.slice.injEq] at hu;obtain ⟨rfl,-,rfl⟩:=hu;rw [HML.out] at FA;obtain ⟨W7,FV,pK,Aq,hb7⟩:=dF w6 (.string ⟨#[]⟩) (.string ⟨#[]⟩) 246;obtain ⟨r0,r1,rf⟩:=cw hb7;have f0:=rf 0;have f1:=rf 1;have HX8:Hid (aA w6 ((W7.setCell ⟨w6.heap.size,0,none⟩ (.string (aB d.num))).setCell ⟨w6.heap.size,1,none⟩ (.string (aE d.den)))):=dq pK (n9 _);have p1:(ld:Int)<=(L:Int):=by omega
 have p2:(0:Int)<=(ld:Int):=by omega
 clear hR hRI hd rf hb7 pK Aq hM HRE HO HE5 hlow
 go_upto_region 11 with (fail)
 obtain ⟨W9,ry⟩:=oO (((W7.setCell ⟨w6.heap.size,0,none⟩ (.string (aB d.num))).setCell ⟨w6.heap.size,1,none⟩ (.string (aE d.den))));rw [<- ry] at HX8 |-;clear ry FV r0 r1 f0 f1;obtain ⟨off,EJ,x6⟩:∃ off,(if cu=ld then some (⟨g,0,none⟩:Addr) else some ⟨g,ld,none⟩)=some ⟨g,off,none⟩/\(ld<cu->off=ld):=by
  by_cases h:cu=ld;·exact ⟨0,by rw [if_pos h],fun h2=>by omega⟩
  ·exact ⟨ld,by rw [if_neg h],fun _=>rfl⟩
 have HOFF:=np x6;clear x6;have HM9:Hid (cT W9 g tags' s.m):=HM.ext HX8;have JM:Hid (dI w5.heap.size W9 (.slice av ld cv) s.lead):=HLE.ext HX8;have HXW:=np (aA.trans HX6 HX8);have rl:Hid (s.m.length=L):=HSH.2.1;clear HM HLE HX8;go_wp2_with fail;clear EJ
 go_loopw [44] (fun t wr=>∃ q:Nat,q<=L-ld/\t=.int .i64 (q:Int)/\Hid (aA W9 wr)/\Hid (∀ p r,p<q->s.m[ld+p]?=some r->r.getD n 0=0)) (fun t _=>(L-ld)-(intOf t).toNat)
 case atStart=>exact ⟨0,by omega,rfl,aA.refl _,fun p r hp=>by omega⟩
 case round =>
  obtain ⟨q,hq,rfl,HE,HZ⟩:=hrel;obtain ⟨wo,rfl⟩:∃ wo:World,wo=wr:=⟨_,rfl⟩;by_cases hlt:q<L-ld
  ·obtain rfl:off=ld:=HOFF (by omega);obtain ⟨r,hr⟩:∃ r,s.m[off+q]?=some r:=⟨_,ns (by rw [rl.out];omega)⟩;obtain ⟨t,ht,c1,l1,l2,hrow,-,-⟩:=HM9.get hr;have hrl:=HSH.1.get hr;obtain ⟨x,hx⟩:∃ x,r[n]?=some x:=⟨_,ns (by omega)⟩;have rm:r.getD n 0=x:=(by rw [nu,hx];rfl);have d1:=HE.cell c1;have d2:=HE.cell (hrow.num n x hx);have d3:=HE.cell (hrow.den n x hx);obtain ⟨R1,qb⟩:=oO (n+1);rw [hrl,<- qb] at d1;have p3:(n:Int)<(R1:Int):=(by omega);have p4:(0:Int)<=(n:Int):=(by omega);have p5:(q:Int)<((L-off:Nat):Int):=(by omega);have HSG:Hid (∀ W,oL 275 #[.agg #[.string (aB x.num),.string (aE x.den)]] W (.int .i64 x.num.sign)):=fun W=>X4_ x W;have hsz:=X5_ x;have HR0:=np hr;have HXG:=np rm;clear hr ht c1 hrow hrl hx rm qb;obtain ⟨sg,qK⟩:=oO x.num.sign;rw [<- qK] at HSG hsz;by_cases pQ:x=0
   ·rw [oH pQ] at hsz;have yk:(sg != 0)=false:=(by simp only [bne,hsz];rfl);have HZ2:Hid (∀ p r,p<q+1->s.m[off+p]?=some r->r.getD n 0=0):=fun p r' hp vW=>by
     by_cases e:p=q
     ·subst e;obtain rfl:r'=r:=oA (vW.symm.trans HR0);rw [HXG.out];exact pQ
     ·exact HZ p r' (by omega) vW
    clear pQ qK HXG HR0;go_wp2_with fail;refine p_ (HSG _) (aA.trans HE) ?_;intro w3 HE3;clear HSG d1 d2 d3;go_wp2_with fail;go_roundw
    case rel=>exact ⟨q+1,by omega,by go_num,HE3,HZ2⟩
    case measure=>simp [intOf];omega
   ·rw [oG pQ] at hsz;have yk:(sg != 0)=true:=(by simp only [bne,hsz];rfl);have Cd:Hid (j6 s n=true):=Z2p (q:=q) (by rw [<- HLD.out];exact HR0) (by rw [HXG.out];exact pQ);clear pQ qK HXG HR0;go_wp2_with fail;refine p_ (HSG _) (aA.trans HE) ?_;intro w3 HE3;clear HSG d1 d2 d3;go_wp2_with fail;go_ret3;have e1:j7 s n=3:=(by unfold j7;rw [if_pos Cd.out]);have e2:mD s n=[]:=(by unfold mD;rw [if_pos Cd.out]);exact ⟨.slice none 0 0,by rw [e1];rfl,by rw [e2];exact dJ.nil _,HXW.trans HE3⟩
  ·have wa:Hid (j6 s n=false):=i5_ (fun p r hr=>HZ p r (by
    have:=(nt.1 hr).1;rw [rl.out,<- HLD.out] at this
    omega) (by rw [HLD.out];exact hr))
   have HX9:=np (aA.trans HXW HE);go_wp2_with fail;have qS:Hid (∀ W,oL 276 #[] W (.agg #[.string ⟨#[48]⟩,.string ⟨#[49]⟩])):=fun W=>by
    have:=G7_ W;rw [H3_] at this;exact this
   refine (qS _).mono ?_;rintro e w7 ⟨rfl,pK⟩;obtain ⟨Wz,zH⟩:=oN (w7.alloc (.cells #[.string ⟨#[48]⟩,.string ⟨#[49]⟩] 246));have oh:aA w7 Wz:=(by rw [<- zH];exact aA.alloc _ _);have CQ:Hid (dJ Wz (.slice (some ⟨w7.heap.size,0,none⟩) 1 1) [0]):=by
    rw [<- zH];have:=dJ.one w7 0 246;rw [show (0:Rat).num=0 from rfl,show (0:Rat).den=1 from rfl,I3_,iF] at this;exact this
   have HXz:=np (aA.trans HE (aA.trans pK oh));clear pK oh HZ HE qS;go_wp2_with fail;refine (A1_ 0 n (by omega) _ _ CQ).mono ?_;rintro e w8 ⟨gx,rfl,hQ,sY⟩;have hgx:=(hQ.lt gx (by simp [Value.ownBlock])).1;have HRX:Hid (dm w8 gx (gj s n 0)):=hQ.row;have HX8:=np (aA.trans HXz sY);have HGX:Hid (W9.heap.size<=gx):=n8 HXz.size hgx;clear hQ sY hgx zH CQ HXz;have LU:Hid (∀ (i:Nat) x,s.lead[i]?=some x->∃ b,av=some ⟨b,0,none⟩/\b<W9.heap.size/\W9.cell? ⟨b,i,none⟩=some (.int .i64 (x:Int))):=by
    intro i x hx;have hil:=(nt.1 hx).1;obtain ⟨b,cap,hb,k1,k2,-,-⟩:=ei JM (by omega);simp only [Value.slice.injEq] at hb;obtain ⟨rfl,-,rfl⟩:=hb;have hc:=World.ownsRow.cells JM (g:=b) (by simp [Value.ownBlock]) i (.int .i64 (x:Int)) (by rw [nx,hx];rfl);rw [show (⟨b,0,none⟩:Addr).add i=⟨b,i,none⟩ by unfold Addr.add;split <;> simp_all] at hc;exact ⟨b,rfl,k2,hc⟩
   go_wp2_with fail
   go_loopw [61] (fun t wr=>∃ i:Nat,i<=ld/\t=.int .i64 (i:Int)/\Hid (aH (·=gx) w8 wr)/\Hid (dm wr gx (gj s n i))) (fun t _=>ld-(intOf t).toNat)
   case atStart=>exact ⟨0,by omega,rfl,aH.refl _ _,HRX⟩
   case round =>
    obtain ⟨i,hi,rfl,HG,HR⟩:=hrel;obtain ⟨AY,rfl⟩:∃ AY:World,AY=wr:=⟨_,rfl⟩;have HXO:Hid (aA W9 AY):=Below.trans HX8 (HG.belowE (fun b e=>by have:=HGX.out;omega) HX8.size);by_cases hlt2:i<ld
    ·obtain ⟨x,hx⟩:∃ x,s.lead[i]?=some x:=⟨_,ns (by rw [<- HLD.out];exact hlt2)⟩;have Cj:x<n:=CY x (nw hx);obtain ⟨b,rfl,rN,IP⟩:=LU i x hx;obtain ⟨r,hr⟩:∃ r,s.m[i]?=some r:=⟨_,ns (by rw [rl.out];omega)⟩;obtain ⟨t,ht,c1,l1,l2,hrow,-,-⟩:=HM9.get hr;have hrl:=HSH.1.get hr;obtain ⟨y,hy⟩:∃ y,r[n]?=some y:=⟨_,ns (by omega)⟩;have sn:aJ s.m i n=y:=my (by rw [ku hr];exact hy);have qB:s.lead.getD i 0=x:=(by rw [nu,hx];rfl);have d1:=HXO.cell IP;have d2:=HXO.cell c1;have d3:=HXO.cell (hrow.num n y hy);have d4:=HXO.cell (hrow.den n y hy);obtain ⟨z0,oy⟩:∃ z0,(gj s n i)[x]?=some z0:=⟨_,ns (by rw [nl];exact Cj)⟩;have d5:=HR.num x z0 oy;have d6:=HR.den x z0 oy;have d7:=HR.free (x*2);have d8:=HR.free (x*2+1);have HNX:Hid (dm ((AY.setCell ⟨gx,x*2,none⟩ (.string (aB y.num))).setCell ⟨gx,x*2+1,none⟩ (.string (aE y.den))) gx (gj s n (i+1))):=by
      have:=HR.set x (by rw [nl];exact Cj) y;rw [show gj s n (i+1)=(gj s n i).set (s.lead.getD i 0) (aJ s.m i n) from rfl,qB,sn];exact this
     have HGN:Hid (aH (·=gx) w8 ((AY.setCell ⟨gx,x*2,none⟩ (.string (aB y.num))).setCell ⟨gx,x*2+1,none⟩ (.string (aE y.den)))):=((HG.store (S:=(·=gx)) rfl _ _)).store (S:=(·=gx)) rfl _ _;obtain ⟨R1,qb⟩:=oO (n+1);rw [hrl,<- qb] at d2;have p3:(n:Int)<(R1:Int):=(by omega);have p4:(0:Int)<=(n:Int):=(by omega);have p5:(i:Int)<(ld:Int):=(by omega);have p6:(i:Int)<(L:Int):=(by omega);have p7:(x:Int)<(n:Int):=(by omega);have p8:(0:Int)<=(x:Int):=(by omega);have p9:(0:Int)<=(i:Int):=(by omega);clear hx hr ht c1 hrow hrl hy sn qB IP oy qb;go_wp2_with fail;go_roundw
     case rel=>exact ⟨i+1,by omega,by go_num,HGN,HNX⟩
     case measure=>simp [intOf];omega
    ·obtain rfl:i=ld:=(by omega);have hrt:=HR.rats (c:=n) (by rw [nl];exact n9 _) (by omega);rw [nl] at hrt;have e2:mD s n=gj s n i:=(by unfold mD;rw [if_neg (by rw [wa.out];simp),<- HLD.out]);rw [<- e2] at hrt;have HRT:=np hrt;have HXF:=np (aA.trans HXW HXO);clear hrt e2;by_cases Hu:i<n
     ·have e1:Hid (j7 s n=2):=(by unfold Hid j7;rw [if_neg (by rw [wa.out];simp),<- HLD.out,if_pos Hu]);have p9:(i:Int)<(n:Int):=(by omega);go_wp2_with fail;go_ret3;exact ⟨_,by rw [e1.out];rfl,HRT,HXF⟩
     ·have e1:Hid (j7 s n=1):=(by unfold Hid j7;rw [if_neg (by rw [wa.out];simp),<- HLD.out,if_neg Hu]);have p9:¬ (i:Int)<(n:Int):=(by omega);go_wp2_with fail;go_ret3;exact ⟨_,by rw [e1.out];rfl,HRT,HXF⟩
theorem Z0m (v ur:Value) (w:World) (h:aV w v []) (hk:aK w ur []) (ht:aZ w) :
  Calls prog 220 #[v,ur] w fun e w'=>∃ x,e=.returned (.tuple #[x,.int .i64 1,.int .i64 0])/\dJ w' x []/\aA w w':=by
 have HCH:Hid (∀ W,aA w W->oL 100 #[v] W (.int .i64 0)):=fun W hW=>mF [] v W (h.ext hW);have qv:Hid (∀ W,aA w W->oM 200 #[v] W (.int .i64 0)):=fun W hW=>Y8_ [] v W (h.ext hW);have HANY:Hid (∀ W,aA w W->oL 117 #[ur,.func (.func 199) #[] #[]] W (.bool false)):=fun W hW =>
  Z1_ [] ur 199 #[] (fun x=>!de x) W (hk.ext hW) (enters_of func199 (by kernel_rfl) rfl) (fun W x _ _=>(J7_ x W).mono fun _ _ ⟨he,hw⟩=>⟨he,hw▸aA.refl _⟩)
 have yQ:Hid (∀ W B,aA w W->Calls prog 204 #[v,.func (.func 296) #[] #[.pointer (some ⟨B,0,none⟩)]] W fun e w'=>∃ u,e=.returned u/\(∃ a c,u=.slice a 0 c)/\aA W w'):=fun W B hW=>by
  have:=v6_ [] v 296 #[.pointer (some ⟨B,0,none⟩)] (fun i=>[]) W (h.ext hW) (by simp) (fun r hr=>by simp at hr) (fun i r hr=>by simp at hr) (enters_of func296 (by kernel_rfl) rfl) (fun i X hi hX=>by simp at hi) (ht.ext hW);refine this.mono fun e w' ⟨u,tags,g1,g2,g3⟩=>⟨u,g1,?_,g3⟩
  rcases g2.own.2 with ⟨e,hn⟩ | ⟨g,cap,cur,e,-⟩
  ·exact ⟨none,0,e⟩
  ·exact ⟨_,cap,e⟩
 obtain ⟨a,c,rfl,h1,h2,-,-⟩:=aP.open h;obtain ⟨ar,cr,rfl,h3,h4,-,-,-⟩:=hk.open;unfold maxLen at h2 h4;obtain ⟨W1,oZ⟩:=oN (w.alloc (.cells #[.slice ar ([]:oQ).length cr] 36));have ov:aA w W1:=by rw [<- oZ];exact aA.alloc _ _
 have c1:W1.cell? ⟨w.heap.size,0,none⟩=some (.slice ar ([]:oQ).length cr):=by rw [<- oZ,World.cell?_alloc_new];rfl
 have HX1:=np ov;simp only [List.length_nil] at oZ c1 HCH qv HANY yQ |-;clear h hk ht ov
 go_enter func220,ntmps220
 go_wp2_with fail;refine (HCH _ HX1).mono ?_;rintro e w2 ⟨rfl,hE2⟩;have c2:=hE2.cell c1;have HX2:=np (aA.trans HX1 hE2);clear hE2 c1 oZ HCH;go_wp2_with fail;refine p_ (HANY _ HX2) (aA.trans HX2) ?_;intro w3 HX3;clear c2 HANY;go_wp2_with fail;refine q_ (qv _ HX3) ?_;clear qv;go_wp2_with fail;refine (yQ _ _ HX3).mono ?_;rintro e w5 ⟨u,rfl,⟨au,cu,rfl⟩,oX⟩;have HX5:=np (aA.trans HX3 oX);clear oX yQ;go_wp2_with fail;refine (H5_ _ _ ⟨_,_,_,rfl⟩).mono ?_;rintro e w6 ⟨rfl,oU⟩;have HX6:=np (aA.trans HX5 oU);rw [L3_];obtain ⟨W7,FV,pK,Aq,hb7⟩:=dF w6 (.string ⟨#[]⟩) (.string ⟨#[]⟩) 246;obtain ⟨r0,r1,rf⟩:=cw hb7;have f0:=rf 0;have f1:=rf 1;have HX8:Hid (aA w6 ((W7.setCell ⟨w6.heap.size,0,none⟩ (.string ⟨#[49]⟩)).setCell ⟨w6.heap.size,1,none⟩ (.string ⟨#[49]⟩))):=dq pK (n9 _);clear oU rf hb7 pK Aq
 go_upto_region 11 with (fail)
 obtain ⟨W9,ry⟩:=oO (((W7.setCell ⟨w6.heap.size,0,none⟩ (.string ⟨#[49]⟩)).setCell ⟨w6.heap.size,1,none⟩ (.string ⟨#[49]⟩)));rw [<- ry] at HX8 |-;have HXW:=np (aA.trans HX6 HX8);clear ry FV r0 r1 f0 f1;go_wp2_with fail
 go_loopw [44] (fun t wr=>t=.int .i64 0/\Hid (aA W9 wr)) (fun _ _=>0)
 case atStart=>exact ⟨rfl,by first | exact aA.refl _ | exact aA.drew _⟩
 case round =>
  obtain ⟨rfl,HE⟩:=hrel;obtain ⟨wo,rfl⟩:∃ wo:World,wo=wr:=⟨_,rfl⟩;have qS:Hid (∀ W,oL 276 #[] W (.agg #[.string ⟨#[48]⟩,.string ⟨#[49]⟩])):=fun W=>by
   have:=G7_ W;rw [H3_] at this;exact this
  go_wp2_with fail;refine (qS _).mono ?_;rintro e w7 ⟨rfl,pK⟩;obtain ⟨Wz,zH⟩:=oN (w7.alloc (.cells #[.string ⟨#[48]⟩,.string ⟨#[49]⟩] 246));have oh:aA w7 Wz:=by rw [<- zH];exact aA.alloc _ _
  have CQ:Hid (dJ Wz (.slice (some ⟨w7.heap.size,0,none⟩) 1 1) [0]):=by
   rw [<- zH];have:=dJ.one w7 0 246;rw [show (0:Rat).num=0 from rfl,show (0:Rat).den=1 from rfl,I3_,iF] at this;exact this
  have HXz:=np (aA.trans HE (aA.trans pK oh));clear pK oh HE qS;go_wp2_with fail;refine (A1_ 0 0 (by omega) _ _ CQ).mono ?_;rintro e w8 ⟨gx,rfl,hQ,sY⟩;have HX8':=np (HXW.trans (aA.trans HXz sY));clear hQ sY zH CQ HXz;go_wp2_with fail
  go_loopw [61] (fun t wr=>t=.int .i64 0/\Hid (aA w8 wr)) (fun _ _=>0)
  case atStart=>exact ⟨rfl,by first | exact aA.refl _ | exact aA.drew _⟩
  case round =>
   obtain ⟨rfl,HE2⟩:=hrel;obtain ⟨wp,rfl⟩:∃ wp:World,wp=wr:=⟨_,rfl⟩;go_wp2_with fail;go_ret3;exact ⟨_,rfl,⟨[],rfl,by simp,⟨_,0,rfl,n9 _,by unfold maxLen;omega,fun _=>rfl,fun h=>absurd rfl h⟩,by simp⟩,HX8'.trans HE2⟩
theorem e7_ {xss:oP} {i j:Nat} {r:oQ} (h:xss[i]?=some r):kI xss i j=r.getD j 0:=by
 unfold kI;rw [nu (l:=xss),h];rfl
theorem d5_ (xss:oP) (y:oQ):(eH xss y).length=xss.length:=nX _ _ _
theorem Z3Y {xss:oP} {y:oQ} {i:Nat} {r:oQ} (h:xss[i]?=some r):cC (eH xss y) i=cZ r++[((y.getD i 0:Int):Rat)]:=by
 refine ku ?_;unfold eH ft;have hi:=(nt.1 h).1;rw [nx,List.getElem?_range hi];show some (cZ (xss.getD i [])++_)=_;rw [nu (l:=xss),h];rfl
theorem Z5f {xss:oP} {y:oQ} {n i j:Nat} (hr:∀ r∈xss,r.length=n) (hi:i<xss.length):aJ (eH xss y) i j=if j<n then ((kI xss i j:Int):Rat) else if j=n then ((y.getD i 0:Int):Rat) else 0:=by
 have h:=ns hi;have hl:=hr _ (List.getElem_mem hi);unfold aJ;rw [Z3Y h,nu];by_cases h1:j<n
 ·rw [if_pos h1,oB (by rw [kt,hl];exact h1)];unfold cZ;rw [nx,ns (by omega:j<xss[i].length),e7_ h,nu,ns (by omega:j<xss[i].length)];rfl
 ·rw [if_neg h1,oC (by rw [kt,hl];omega),kt,hl];by_cases h2:j=n;·subst h2;rw [if_pos rfl,Nat.sub_self];rfl
  ·rw [if_neg h2,n_ (by simp;omega)];rfl
def nf (xss:oP) (y:oQ):List Rat:=if xss=[] then [] else mD (iu xss y) (bJ xss)
def Z5e (xss:oP) (y:oQ):Int:=if xss=[] then 1 else j7 (iu xss y) (bJ xss)
theorem Z2q {xss:oP} {y:oQ} {n:Nat} (hr:∀ r∈xss,r.length=n/\gQ r) (hl:xss.length<=12) (hy:gQ y) (c:Nat) :
  fi 2500 (ah (eH xss y) c).m/\RS 9000 (ah (eH xss y) c).det:=by
 refine o1_ (H9_ fun r h=>(hr r h).1) (by rw [d5_];exact hl) (fun i j=>?_) c;by_cases hi:i<xss.length
 ·rw [Z5f (fun r h=>(hr r h).1) hi];have h0:∀ l:oQ,gQ l->∀ j,(l.getD j 0).natAbs<=1000000000:=by
   intro l hl j;rw [nu];cases h:l[j]? with
   | none=>simp
   | some a=>have:=hl a (nw h);simp only [Option.getD_some];omega
  split
  ·refine ⟨_,rfl,?_⟩;rw [e7_ (ns hi)];exact h0 _ (hr _ (List.getElem_mem hi)).2 j
  ·split
   ·exact ⟨_,rfl,h0 y hy i⟩
   ·exact be.zero _
 ·rw [x1_ (by rw [d5_];omega)];exact be.zero _
theorem Z5j {xss:oP} (hE:cM xss=0):∀ r∈xss,gQ r:=fun r hr a ha=>by
 have:=(j8 hE).2 r hr;exact this.2.2 a ha
theorem Z0o (xss:oP) (right:oQ) (v ur:Value) (w:World) (h:aV w v xss) (hk:aK w ur right) (hE:cM xss=0) (zv:right.length=xss.length) (hy:gQ right) (ht:aZ w) :
  Calls prog 220 #[v,ur] w fun e w'=>∃ x,e=.returned (.tuple #[x,.int .i64 (Z5e xss right),.int .i64 0])/\dJ w' x (nf xss right)/\aA w w':=by
 by_cases h0:xss=[]
 ·subst h0;obtain rfl:right=[]:=List.length_eq_zero_iff.1 zv;have:=Z0m v ur w h hk ht;simpa [Z5e,nf] using this
 ·have:=Z2r xss right v ur w h hk hE (List.length_pos_iff.2 h0) zv hy (fun c _=>Z2q (n:=bJ xss) (fun r hr=>⟨((j8 hE).2 r hr).1,Z5j hE r hr⟩) (j8 hE).1 hy c) ht;unfold Z5e nf;rw [if_neg h0,if_neg h0];exact this
def Z5U (a b:Nat):Nat:=a / Nat.gcd a b*b
def gD (xs:List Rat):Nat->Nat
 | 0=>1
 | i+1=>Z5U (gD xs i) (xs.getD i 0).den
theorem lq {u:Nat} (h:u<=1000000000):(aE u).size<=2000:=by
 rw [<- eb];exact Q1_ (n:=(u:Int)) (k:=10) (Nat.lt_of_le_of_lt (show (u:Int).natAbs<=1000000000 by omega) (by decide)) (by decide) (by decide)
theorem b6_ (x y:Nat) (hx:0<x) (hy:0<y) (hxs:x<=1000000000) (hys:y<=1000000000) (w:World) (ht:aZ w) :
  oL 298 #[.string (aE x),.string (aE y)] w (.string (aE (Z5U x y))):=by
 have h1:=jy x;have h2:=jy y;rw [oG (by omega)] at h1 h2;have hg:0<Nat.gcd x y:=Nat.gcd_pos_of_pos_left _ hx;have hgx:Nat.gcd x y<=x:=Nat.gcd_le_left _ hx;have HG:=np (D0_ x y w (n8 (lq hxs) (by decide)) (n8 (lq hys) (by decide)) ht);have HD:=np (fun W (hW:aA w W)=>Y9_ x (Nat.gcd x y) W (n8 (lq hxs) (by decide)) (n8 (lq (by omega)) (by decide)) (by omega) (ht.ext hW));have HM:=np (fun W (hW:aA w W)=>D1_ (x / Nat.gcd x y) y W (n8 (lq (n8 (Nat.div_le_self _ _) hxs)) (by decide)) (n8 (lq hys) (by decide)) (ht.ext hW));clear hg hgx hxs hys ht hx hy
 go_enter func298,ntmps298
 go_wp2_with fail;refine o_ HG ?_;intro w1 HE1;clear HG;go_wp2_with fail;refine p_ (HD _ HE1) (HE1.trans) ?_;intro w2 HE2;clear HD;go_wp2_with fail;refine p_ (HM _ HE2) (HE2.trans) ?_;intro w3 HE3;clear HM;go_wp2_with fail;go_ret;exact ⟨rfl,HE3⟩
theorem Z4V (x y:Nat) (hx:0<x) (hy:0<y) (hxs:x<=1000000000) (hys:y<=1000000000) (w:World) (ht:aZ w) :
  oL 221 #[.string (aE x),.string (aE y)] w (.string (aE (Z5U x y))):=by
 have HA:Hid (∀ (u:Nat) W,oL 63 #[.string (aE u)] W (.string (aE u))):=fun u W=>by
  have:=z5_ (u:Int) W;rw [show ((((u:Int).natAbs:Nat)):Int)=(u:Int) by omega,eb] at this;exact this
 have HL:=np (fun W (hW:aA w W)=>b6_ x y hx hy hxs hys W (ht.ext hW));clear hx hy hxs hys ht
 go_enter func221,ntmps221
 go_wp2_with fail;refine o_ (HA _ _) ?_;intro w1 HE1;go_wp2_with fail;refine p_ (HA _ _) (HE1.trans) ?_;intro w2 HE2;go_wp2_with fail;refine p_ (HL _ HE2) (HE2.trans) ?_;intro w3 HE3;go_wp2_with fail;go_ret;exact ⟨rfl,HE3⟩
theorem a7_ (n:Nat) (R:oP) (r:oQ) (xs:List Rat) (v vr:Value) (w:World) (hv:bj w v n R) (hr:aK w vr r) (hE:cM R=0) (It:cM (eR R)=0) (hl:r.length=(eR R).length) (qo:gQ r) (hxs:nf (eR R) r=xs)
  (hb:∀ i,i<=xs.length->0<gD xs i/\gD xs i<=1000000000) (hd:∀ i,i<xs.length->0<(xs.getD i 0).den/\(xs.getD i 0).den<=1000000000) (oS:bg w) (hp:3<w.heap.size) :
  oL 123 #[v,vr] w (.tuple #[.int .i64 (gD xs xs.length:Nat),.int .i64 0]):=by
 obtain ⟨u,rfl,hu⟩:=hv;have HTR:Hid (∀ W,aA w W->Calls prog 192 #[u] W fun e w'=>∃ u,e=.returned (.tuple #[u,.int .i64 0])/\aV w' u (eR R)/\aA W w'):=fun W hW =>
  (Z0u R u W (hu.ext hW) hE).mono fun e w' ⟨u,h1,h2,h3⟩=>⟨u,h1,h2.list,h3⟩
 have JE:Hid (∀ W v,aA w W->aV W v (eR R)->Calls prog 220 #[v,vr] W fun e w'=>∃ x k,e=.returned (.tuple #[x,.int .i64 k,.int .i64 0])/\dJ w' x xs/\aA W w'):=fun W v hW h=>by
  have:=Z0o (eR R) r v vr W h (hr.ext hW) It hl qo (oS.pow.ext hW);rw [hxs] at this;exact this.mono fun e w' ⟨x,h1,h2,h3⟩=>⟨x,_,h1,h2,h3⟩
 have HLC:Hid (∀ i,i<xs.length->∀ W,aA w W->oL 221 #[.string (aE (gD xs i)),.string (aE (xs.getD i 0).den)] W (.string (aE (gD xs (i+1))))):=fun i hi W hW =>
  Z4V _ _ (hb i (by omega)).1 (hd i hi).1 (hb i (by omega)).2 (hd i hi).2 W (oS.pow.ext hW)
 have HSH:Hid (∀ W,aA w W->oL 95 #[.string (aE (gD xs xs.length))] W (.tuple #[.int .i64 (gD xs xs.length:Nat),.int .i64 0])):=fun W hW=>by
  have h1:=hb xs.length (n9 _);have:=Q2_ ((gD xs xs.length:Nat):Int) W (by omega) (by omega) (oS.ext hW);rw [eb] at this;exact this
 obtain ⟨ar,cr,rfl,-⟩:=hr.open;obtain ⟨a,c,rfl,-⟩:=aP.open hu;have HN1:Hid (aE 1=⟨#[49]⟩):=iF;clear hu hr hE It hl qo hxs hb hd oS hp
 go_enter func123,ntmps123
 obtain ⟨W1,oZ,hE1,hs1,hb1⟩:=cL w (.int .i64 n) (.slice a R.length c);have HE1:=np hE1;obtain ⟨s0,s1,-⟩:=bG hb1;clear hE1 hs1 hb1;go_wp2_with fail;refine (HTR _ HE1).mono ?_;rintro e w2 ⟨u2,rfl,hu2,hE2⟩;have HE2:=np (HE1.trans hE2);clear hE2 HTR HE1 oZ s0 s1;have HU2:=np hu2;obtain ⟨a2,c2,rfl,-⟩:=aP.open hu2;clear hu2;go_wp2_with fail;refine (JE _ _ HE2 HU2).mono ?_;rintro e w3 ⟨x3,k3,rfl,Ac,oT⟩;have HE3:=np (HE2.trans oT);clear oT JE HE2 HU2;obtain ⟨a3,c3,rfl,l1,l2,-,hc⟩:=aR.open Ac;have HC:=np hc;unfold maxLen at l2;clear Ac hc;go_wp2_with fail
 go_loopw [10,34] (fun s t wr=>∃ i:Nat,i<=xs.length/\Hid (s=.string (aE (gD xs i)))/\t=.int .i64 i/\Hid (aA w3 wr)) (fun _ t _=>xs.length-(intOf t).toNat)
 case atStart=>exact ⟨0,by omega,by unfold Hid gD;rw [HN1.out],rfl,aA.refl _⟩
 case round =>
  obtain ⟨i,hi,hs,rfl,HE⟩:=hrel;obtain rfl:=hs.out;obtain ⟨wo,rfl⟩:∃ wo:World,wo=wr:=⟨_,rfl⟩;clear hs;by_cases hlt:i<xs.length
  ·obtain ⟨b,off,rfl,hb,hcell⟩:=HC (by omega) (by intro e;rw [e] at hlt;simp at hlt);obtain ⟨u1,-,rfl,d1⟩:=hcell i (xs.getD i 0) (by rw [nu,ns hlt,Option.getD_some]);have HL:=np (HLC i hlt);obtain ⟨q,hq⟩:=oN (xs.getD i 0);obtain ⟨m1,ph⟩:=oN (gD xs (i+1));rw [hq] at d1 HL;rw [ph] at HL;have HM1:=np ph;have g1:wo.cell? ⟨b,off+i*2,none⟩=some (.string (aB q.num)):=HE.cell (d1 0 (by omega));have g2:wo.cell? ⟨b,off+i*2+1,none⟩=some (.string (aE q.den)):=HE.cell (d1 1 (by omega));obtain ⟨V4,Kp,hE4,D3,hb4⟩:=dF wo (.string ⟨#[]⟩) (.string ⟨#[]⟩) 246;obtain ⟨r0,r1,rf⟩:=cw hb4;have f0:=rf 0;have f1:=rf 1;have HB4:=np (jj (a:=.string (aB q.num)) (b:=.string (aE q.den)) hb4);have HX4:Hid (aA wo ((V4.setCell ⟨wo.heap.size,0,none⟩ (.string (aB q.num))).setCell ⟨wo.heap.size,1,none⟩ (.string (aE q.den)))):=dq hE4 (n9 _);obtain ⟨U4,zK⟩:=oN ((V4.setCell ⟨wo.heap.size,0,none⟩ (.string (aB q.num))).setCell ⟨wo.heap.size,1,none⟩ (.string (aE q.den)));rw [zK] at HB4 HX4;obtain ⟨s0,s1,-⟩:=cw HB4;have HEU:=np (HE.trans HX4);clear hcell d1 hq ph hE4 D3 hb4 rf HE HX4 hb;go_wp2_with fail;clear zK Kp r0 r1 f0 f1 g1 g2;refine p_ (HL _ (HE3.trans HEU)) (HEU.trans) ?_;intro w5 HE5;clear s0 s1;go_wp2_with fail;go_roundw
   case rel=>exact ⟨i+1,by omega,by unfold Hid;rw [HM1.out],by go_num,HE5⟩
   case measure=>simp [intOf];omega
  ·obtain rfl:i=xs.length:=(by omega);go_wp2_with fail;refine p_ (HSH _ (HE3.trans HE)) ((HE3.trans HE).trans) ?_;intro w9 HE9;clear HSH;go_wp2_with fail;go_ret2;exact ⟨rfl,HE9⟩
theorem l8_ (n F:Nat) (P:oQ) (m R A S:oP) (vp v:Value) (w:World) (hP:aK w vp P) (h:aV w v m) (hE:dM P=0) (hPl:P.length=n) (hD:di n F m R A S) (oS:bg w) (hp:3<w.heap.size) (x:oQ) (SS:oP) (hS:S=x::SS) (s ms:oQ) (hc:iI n R x=0) (qh:dx R x R.length=some (s,ms)) (hlead:¬ bt s<0) (q:Int)
  (HO:∀ W u vr,aA w W->bj W u n R->aK W vr x->Calls prog 123 #[u,vr] W fun e w'=>e=.returned (.tuple #[.int .i64 q,.int .i64 0])/\aA W w') :
  Calls prog 40 #[vp,v] w fun e w'=>∃ u,e=.returned (.tuple #[u,.int .i64 q,.int .i64 0])/\aK w' u x/\aA w w':=by
 have HOF:=np (Z1x n F P m R A S vp v w hP h hE hPl hD oS hp);have HSA:=np (fun W (hW:aA w W) u (hu:bj W u n R)=>L7_ n F R A S u W hu hD.chk hD.n1 hD.n4 hD.kR hD.kA hD.lA hD.lS hD.bS (oS.ext hW) (n7 hp hW.size));have qv:Hid (∀ W u vx,aA w W->bj W u n R->aK W vx x->oL 122 #[u,vx] W (.tuple #[.bool false,.int .i64 0])):=fun W u vx hW hu hx=>by
  have:=s3_ n R x s ms u vx W hu hx hc qh (oS.pow.ext hW) (n7 hp hW.size);rw [oG hlead] at this;exact this
 have HOR:=np HO;subst hS;obtain ⟨ap,cp,rfl,-⟩:=hP.open;obtain ⟨a,c,rfl,-⟩:=aP.open h;clear hP h hE hPl hD oS hp HO hc qh hlead
 go_enter func40,ntmps40
 go_wp2_with fail;refine HOF.mono ?_;rintro e w1 ⟨a1,c1,rfl,hu1,hE1⟩;have HU1:=np hu1.now;have HE1:=np hE1;clear hE1 hu1 HOF;obtain ⟨V1,wF,hX,hs,hb⟩:=cL w1 (.int .i64 0) (.slice none 0 0);obtain ⟨r0,r1,rf⟩:=bG hb;have f0:=rf 0;have f1:=rf 1;have HB1:=np (eE hb (.int .i64 n) (.slice a1 R.length c1));have HX1:=np (db hX (n9 _) (.int .i64 n) (.slice a1 R.length c1));clear hX hs hb rf;obtain ⟨U1,sO⟩:=oN ((V1.setCell ⟨w1.heap.size,0,none⟩ (.int .i64 n)).setCell ⟨w1.heap.size,1,none⟩ (.slice a1 R.length c1));rw [sO] at HB1 HX1;obtain ⟨s0,s1,-⟩:=bG HB1;have HEU1:=np (HE1.trans HX1);have HR1:=np (HU1.ext HX1);go_wp2_with fail;clear sO wF r0 r1 f0 f1;refine (HSA _ HEU1 _ ⟨_,rfl,HR1⟩).mono ?_;rintro e w2 ⟨u2,rfl,hu2,hE2⟩;have HE2:=np (HEU1.trans hE2);have HB12:=np (aF HB1 hE2);have HR2:=np (HR1.ext hE2);have hu2:=hu2.now;have HU2:=np hu2;obtain ⟨a2,c2,rfl,l1,l2,-,hc⟩:=aP.open hu2;unfold maxLen at l2;clear hE2 s0 s1 HSA;obtain ⟨V2,zJ,hX,hs,hb⟩:=cL w2 (.int .i64 0) (.slice none 0 0);obtain ⟨r0,r1,rf⟩:=bG hb;have f0:=rf 0;have f1:=rf 1;have HB2:=np (eE hb (.int .i64 n) (.slice a2 (x::SS).length c2));have HX2:=np (db hX (n9 _) (.int .i64 n) (.slice a2 (x::SS).length c2));clear hX hs hb rf;obtain ⟨U2,tP⟩:=oN ((V2.setCell ⟨w2.heap.size,0,none⟩ (.int .i64 n)).setCell ⟨w2.heap.size,1,none⟩ (.slice a2 (x::SS).length c2));rw [tP] at HB2 HX2;obtain ⟨s0,s1,-⟩:=bG HB2;have HEU2:=np (HE2.trans HX2);have HB13:=np (aF HB12 HX2);have HR3:=np (HR2.ext HX2);have HU3:=np (HU2.ext HX2);obtain ⟨b,off,rfl,hb,hcell⟩:=hc (by simp);obtain ⟨vx,pV,o7⟩:=hcell 0 x rfl;have g1:=HX2.cell o7;have HXI:=np (pV.ext HX2);obtain ⟨ax,cx,rfl,-⟩:=pV.open;obtain ⟨t0,t1,-⟩:=bG HB13;rw [Nat.add_zero] at g1;have hlen:0<(x::SS).length:=by simp
 obtain ⟨N,hN⟩:=oN ((x::SS).length);obtain ⟨b1,hb1⟩:=oN w1.heap.size;rw [hb1] at HB13 t0 t1 |-;rw [hN] at hlen s1 tP |-;clear hcell o7 pV hc hu2 HB12 HR2 HU2 hN hb1 hb;go_wp2_with fail;refine wp_loop_once ?_;go_wp2_with fail;clear tP zJ r0 r1 f0 f1;refine (qv _ _ _ HEU2 ⟨_,rfl,HR3⟩ HXI).mono ?_;rintro e w3 ⟨rfl,oT⟩;have HE3:=np (HEU2.trans oT);have HB14:=np (aF HB13 oT);have HR4:=np (HR3.ext oT);have HX4:=np (HXI.ext oT);clear oT qv HB13 HR3 HXI t0 t1 s0 s1 g1;obtain ⟨t0,t1,-⟩:=bG HB14;go_wp2_with fail;refine (HOR _ _ _ HE3 ⟨_,rfl,HR4⟩ HX4).mono ?_;rintro e w5 ⟨rfl,oX⟩;have HE5:=np (HE3.trans oX);have HX5:=np (HX4.ext oX);clear oX HOR t0 t1;go_wp2_with fail;go_ret3;exact ⟨_,rfl,HX5,HE5⟩
theorem Z63:fp mM 2=[1,4,4]:=by decide +kernel
theorem Z5A:aB (dy [1,4,4] 3)=⟨#[57]⟩/\aB (fM [1,4,4] 3)=⟨#[52]⟩:=by decide +kernel
theorem lk (k:Nat) (h:k<10):Lib.itoa (k:Int)=[UInt8.ofNat (48+k)]:=by
 unfold Lib.itoa;rw [if_neg (by omega),Int.toNat_natCast,Lib.decDigits_one h]
theorem Z5B:eJ mP mM 2=⟨#[50,46,51,46,53,32,60,49,32,48,32,45,52,93,32,60,48,32,49,32,52,93]⟩:=by
 have g0:Lib.itoa 0=[48]:=lk 0 (by decide);have g1:Lib.itoa 1=[49]:=lk 1 (by decide);have g2:Lib.itoa 2=[50]:=lk 2 (by decide);have g3:Lib.itoa 3=[51]:=lk 3 (by decide);have g4:Lib.itoa 4=[52]:=lk 4 (by decide);have g5:Lib.itoa 5=[53]:=lk 5 (by decide);have h6:Lib.itoa (-4)=[45,52]:=by
  unfold Lib.itoa;rw [if_pos (by decide),show (-4:Int).natAbs=4 from rfl,Lib.decDigits_one (by decide)];rfl
 have e1:jU mP=[50,46,51,46,53]:=by
  unfold jU;rw [show mP.map Lib.itoa=[Lib.itoa 2,Lib.itoa 3,Lib.itoa 5] from rfl,g2,g3,g5];rfl
 have t1:gL [1,0,-4] false=[60,49,32,48,32,45,52,93]:=by
  unfold gL iJ;rw [if_neg (by decide),show ([1,0,-4]:oQ).map Lib.itoa=[Lib.itoa 1,Lib.itoa 0,Lib.itoa (-4)] from rfl,g1,g0,h6];rfl
 have t2:gL [0,1,4] false=[60,48,32,49,32,52,93]:=by
  unfold gL iJ;rw [if_neg (by decide),show ([0,1,4]:oQ).map Lib.itoa=[Lib.itoa 0,Lib.itoa 1,Lib.itoa 4] from rfl,g0,g1,g4];rfl
 unfold eJ eJ eJ;rw [show aC mM 0=[1,0,-4] from rfl,show aC mM 1=[0,1,4] from rfl,e1,t1,t2];rfl
theorem Z5C:∀ i,i<=mM.length->(eJ mP mM i).size<=1000000:=fun i hi=>by
 have h2:(eJ mP mM 2).size=22:=by rw [Z5B];rfl
 have h1:(eJ mP mM 1).size<=(eJ mP mM 2).size:=by rw [show eJ mP mM 2=eJ mP mM 1++(⟨#[32]⟩++⟨(gL (aC mM 1) false).toArray⟩) from rfl,ByteArray.size_append];omega
 have h0:(eJ mP mM 0).size<=(eJ mP mM 1).size:=by rw [show eJ mP mM 1=eJ mP mM 0++(⟨#[32]⟩++⟨(gL (aC mM 0) false).toArray⟩) from rfl,ByteArray.size_append];omega
 have hi:i=0\/i=1\/i=2:=by simp at hi;omega
 rcases hi with rfl | rfl | rfl <;> omega
theorem Z69:∀ x∈([[24,38,56]]:oP),aN 1000000000 x/\x.length=3:=by unfold aN;decide +kernel
theorem Z6a:∀ x∈([[1,20,-14],[0,28,-19]]:oP),aN 1000000000 x/\x.length=3:=by unfold aN;decide +kernel
theorem Z6b:∀ x∈([[12,19,28]]:oP),aN 1000000000 x/\x.length=3:=by unfold aN;decide +kernel
theorem Z3p:di 3 20 [[24,38,56]] [[24,38,56]] [[1,20,-14],[0,28,-19]] [[12,19,28]]:=⟨by decide,by decide,by decide +kernel,by decide +kernel,⟨by decide,Z69⟩,by decide +kernel,by decide +kernel,by decide +kernel,by decide,by decide,Z6a,Z6b⟩
theorem Z64:iI 3 [[8,-8,2]] [4,-4,1]=0:=by decide +kernel
theorem Z65:dx [[8,-8,2]] [4,-4,1] 1=some ([4,-4,1],[0]):=by decide +kernel
theorem Z66:nf (eR [[8,-8,2]]) [4,-4,1]=[1 / 2]:=by decide +kernel
theorem Z4P:cM [[8,-8,2]]=0/\cM (eR [[8,-8,2]])=0/\(eR [[8,-8,2]]).length=3:=by decide +kernel
theorem Z67:(1 / 2:Rat).den=2:=by decide +kernel
theorem Z68:gH [[24,38,56]] 1=some 24/\gH [[12,19,28]] 1=some 12/\bX 24=true/\bX 12=true/\aQ 24 12=2/\bX (aQ 24 12)=true/\dc (aQ 24 12)=true:=by decide +kernel
theorem k4_ (w:World) (oS:bg w) (hp:3<w.heap.size) :
  oL 36 #[] w (.bool true):=by
 have HCX:Hid (∀ W v,aA w W->bZ W v mP mC mM->oL 62 #[v] W (.tuple #[.string ⟨#[57]⟩,.string ⟨#[52]⟩,.int .i64 0])):=fun W v hW hv=>by
  have:=G9_ 3 20 mP mC mM [1,4,4] v W hv mR (by decide) (by decide) Z63 (by decide) (oS.ext hW) (n7 hp hW.size);rw [show ([1,4,4]:oQ).length=3 from rfl,Z5A.1,Z5A.2] at this;exact this
 have HNM:Hid (∀ W v,aA w W->bZ W v mP mC mM->oL 71 #[v] W (.tuple #[.string ⟨#[50,46,51,46,53,32,60,49,32,48,32,45,52,93,32,60,48,32,49,32,52,93]⟩,.int .i64 0])):=fun W v hW hv=>by
  have:=Z1m 3 20 mP mC mM v W hv mR (by decide) Z5C (oS.ext hW) (n7 hp hW.size);rw [show mM.length=2 from rfl,Z5B] at this;exact this
 have DT:Hid (∀ W vp v,aA w W->aK W vp mP->aV W v [[-8,8,-2]]->Calls prog 40 #[vp,v] W fun e w'=>∃ a c,e=.returned (.tuple #[.slice a 3 c,.int .i64 2,.int .i64 0])/\aK w' (.slice a 3 c) [4,-4,1]/\aA W w'):=fun W vp v hW pZ hv=>by
  refine (l8_ 3 20 mP [[-8,8,-2]] [[8,-8,2]] mM mC vp v W pZ hv mPr rfl mD3 (oS.ext hW) (n7 hp hW.size) [4,-4,1] [] rfl [4,-4,1] [0] Z64 Z65 (by decide) 2 (fun W' u vr hW' hu hr=>?_)).mono fun e w' ⟨u,h1,h2,h3⟩=>?_
  ·have hd:∀ i,i<1->(([1 / 2]:List Rat).getD i 0).den=2:=fun i hi=>by
    obtain rfl:i=0:=(by omega);exact Z67
   have h0:gD [1 / 2] 1=2:=by
    show Z5U 1 _=2;rw [hd 0 (by omega)];rfl
   have:=a7_ 3 [[8,-8,2]] [4,-4,1] [1 / 2] u vr W' hu hr Z4P.1 Z4P.2.1 Z4P.2.2.symm (by unfold gQ;decide) Z66
    (fun i hi=>by
     have hi:i=0\/i=1:=(by simp at hi;omega);rcases hi with rfl | rfl;·exact ⟨by decide,by decide⟩
     ·rw [h0];exact ⟨by decide,by decide⟩)
    (fun i hi=>by rw [hd i (by simpa using hi)];exact ⟨by decide,by decide⟩) ((oS.ext hW).ext hW') (n7 hp (hW.trans hW').size)
   rw [show ([1 / 2]:List Rat).length=1 from rfl,h0] at this;exact this
  ·obtain ⟨a,c,rfl,-⟩:=h2.open;exact ⟨a,c,h1,h2,h3⟩
 have HCT:Hid (∀ W vp v,aA w W->aK W vp mP->aV W v [[24,38,56]]->oL 39 #[vp,v] W (.tuple #[.int .i64 2,.int .i64 0])):=fun W vp v hW pZ hv=>by
  refine F0_ 3 20 mP [[24,38,56]] [[24,38,56]] [[1,20,-14],[0,28,-19]] [[12,19,28]] vp v W pZ hv mPr rfl Z3p 2 (fun W' u hW' hu=>?_) (oS.ext hW) (n7 hp hW.size);obtain ⟨q1,q2,q3,q4,q5,q6,q7⟩:=Z68;refine (Z1o 3 20 [[24,38,56]] [[1,20,-14],[0,28,-19]] [[12,19,28]] 24 12 u W' hu Z3p.chk (by decide) Z3p.kR Z3p.kA (by decide) q1 q2 q3 q4 (by decide) q6 (by decide) ((oS.ext hW).ext hW') (n7 hp (hW.trans hW').size)).mono fun e w' h=>?_;unfold Z5S at h;rw [if_pos q7,q5] at h;exact h
 have HRE:Hid (∀ W u v,aK W u [4,-4,1]->aK W v [4,-4,1]->oL 45 #[u,v] W (.bool true)):=fun W u v h k=>by
  have:=O9_ [4,-4,1] [4,-4,1] u v W h k;simpa using this
 clear oS hp
 go_enter func36,ntmps36
 obtain ⟨A1,hA1,ov,Km,rQ⟩:=kV w (·<w.heap.size) (fun b h=>h) [2,3,5] (by decide) (by decide) #[.int .i64 2,.int .i64 3,.int .i64 5] rfl 3 rfl;obtain ⟨A2,hA2,qF,Kl,AJ⟩:=kV A1 (·<w.heap.size) (fun b h=>n7 h ov.size) [4,-4,1] (by decide) (by decide) #[.int .i64 4,.int .i64 (-4),.int .i64 1] rfl 3 rfl;obtain ⟨A3,LB,s6,Kk,Bx⟩:=H7_ A2 (·<w.heap.size) (fun b h=>n7 h (ov.trans qF).size) (.slice (some ⟨A1.heap.size,0,none⟩) 3 3) [4,-4,1] AJ;obtain ⟨A4,hA4,wE,Kj,Bw⟩:=kV A3 (·<w.heap.size) (fun b h=>n7 h ((ov.trans qF).trans s6).size) [1,0,-4] (by decide) (by decide) #[.int .i64 1,.int .i64 0,.int .i64 (-4)] rfl 3 rfl;obtain ⟨A5,LA,s5,Ki,Iq⟩:=kV A4 (·<w.heap.size) (fun b h=>n7 h (((ov.trans qF).trans s6).trans wE).size) [0,1,4] (by decide) (by decide) #[.int .i64 0,.int .i64 1,.int .i64 4] rfl 3 rfl;obtain ⟨A6,K9,C7,Kh,Ip⟩:=Z2f A5 (·<w.heap.size) (fun b h=>n7 h ((((ov.trans qF).trans s6).trans wE).trans s5).size) (.slice (some ⟨A3.heap.size,0,none⟩) 3 3) (.slice (some ⟨A4.heap.size,0,none⟩) 3 3) [1,0,-4] [0,1,4] (Bw.ext s5) Iq;obtain ⟨V7,Bg,IV,Aq,hb7⟩:=fv A6 (.slice none 0 0) (.slice none 0 0) (.slice none 0 0);obtain ⟨r0,r1,r2,rf⟩:=bc hb7;have f0:=rf 0;have f1:=rf 1;have f2:=rf 2;have HB7:=np (iQ hb7 (.slice (some ⟨w.heap.size,0,none⟩) 3 3) (.slice (some ⟨A2.heap.size,0,none⟩) 1 1) (.slice (some ⟨A5.heap.size,0,none⟩) 2 2));have HXU:=np (iB IV (n9 _) (.slice (some ⟨w.heap.size,0,none⟩) 3 3) (.slice (some ⟨A2.heap.size,0,none⟩) 1 1) (.slice (some ⟨A5.heap.size,0,none⟩) 2 2));obtain ⟨U7,yJ⟩:=oN (((V7.setCell ⟨A6.heap.size,0,none⟩ (.slice (some ⟨w.heap.size,0,none⟩) 3 3)).setCell ⟨A6.heap.size,1,none⟩ (.slice (some ⟨A2.heap.size,0,none⟩) 1 1)).setCell ⟨A6.heap.size,2,none⟩ (.slice (some ⟨A5.heap.size,0,none⟩) 2 2));rw [yJ] at HB7 HXU;have HI1:=np (rQ.now.ext ((((((qF).trans s6).trans wE).trans s5).trans C7).trans HXU));have HI3:=np (Bx.now.ext ((((wE).trans s5).trans C7).trans HXU));have HI6:=np (Ip.now.ext HXU);have HEU:=np (((((((ov).trans qF).trans s6).trans wE).trans s5).trans C7).trans HXU);have DP:Hid (bZ U7 (.agg #[.slice (some ⟨w.heap.size,0,none⟩) 3 3,.slice (some ⟨A2.heap.size,0,none⟩) 1 1,.slice (some ⟨A5.heap.size,0,none⟩) 2 2]) mP mC mM):=⟨_,_,_,rfl,HI1,HI3,HI6⟩;obtain ⟨t0,t1,t2,-⟩:=bc HB7;clear rQ AJ Bx Bw Iq Ip ov qF s6 wE s5 C7 Km Kl Kk Kj Ki Kh IV Aq hb7 rf HI3 HI6 HXU;go_wp2_with fail;clear hA1 hA2 LB hA4 LA K9 Bg yJ r0 r1 r2 f0 f1 f2;obtain ⟨b1,hb1⟩:=oN w.heap.size;obtain ⟨b2,oY⟩:=oN A2.heap.size;obtain ⟨b5,hb5⟩:=oN A5.heap.size;obtain ⟨b6,sy⟩:=oN A6.heap.size;rw [hb1,oY,hb5] at HB7 DP;rw [sy] at HB7;rw [hb1] at HI1;rw [hb1,oY,hb5,sy];clear hb1 oY hb5 sy t0 t1 t2;refine (HCX _ _ HEU DP).mono ?_;rintro e w1 ⟨rfl,hE⟩;have HE1:=np (HEU.trans hE);have HB1:=np (aF HB7 hE);have HT1:=np (DP.ext hE);have HI1:=np (HI1.ext hE);clear hE HEU HB7 DP HCX;obtain ⟨t0,t1,t2,-⟩:=bc HB1;go_wp2_with fail;clear t0 t1 t2;refine (HNM _ _ HE1 HT1).mono ?_;rintro e w2 ⟨rfl,hE⟩;have HE2:=np (HE1.trans hE);have HI2:=np (HI1.ext hE);clear hE HE1 HB1 HT1 HI1 HNM;obtain ⟨R1,qb,ov,-,rQ⟩:=kV w2 (·<w2.heap.size) (fun b h=>h) [-8,8,-2] (by decide) (by decide) #[.int .i64 (-8),.int .i64 8,.int .i64 (-2)] rfl 3 rfl;obtain ⟨R2,hR2,qF,-,Bx⟩:=H7_ R1 (·<w2.heap.size) (fun b h=>n7 h ov.size) (.slice (some ⟨w2.heap.size,0,none⟩) 3 3) [-8,8,-2] rQ;have HM:=np Bx.now;have HER:=np (HE2.trans (ov.trans qF));have HIR:=np (HI2.ext (ov.trans qF));clear rQ Bx ov qF;go_wp2_with fail;clear qb hR2;refine (DT _ _ _ HER HIR HM).mono ?_;rintro e w3 ⟨a3,c3,rfl,zz,hE⟩;have HE3:=np (HER.trans hE);have HI3:=np (HIR.ext hE);have HD3:=np zz;clear hE HER HIR HM HI2 HE2 zz DT;obtain ⟨R1,qb,ov,-,rQ⟩:=kV w3 (·<w3.heap.size) (fun b h=>h) [24,38,56] (by decide) (by decide) #[.int .i64 24,.int .i64 38,.int .i64 56] rfl 3 rfl;obtain ⟨R2,hR2,qF,-,Bw⟩:=H7_ R1 (·<w3.heap.size) (fun b h=>n7 h ov.size) (.slice (some ⟨w3.heap.size,0,none⟩) 3 3) [24,38,56] rQ;have HM:=np Bw.now;have HER:=np (HE3.trans (ov.trans qF));have HIR:=np (HI3.ext (ov.trans qF));have HDR:=np (HD3.ext (ov.trans qF));clear rQ Bw ov qF;go_wp2_with fail;clear qb hR2;refine (HCT _ _ _ HER HIR HM).mono ?_;rintro e w4 ⟨rfl,hE⟩;have HE4:=np (HER.trans hE);have HD4:=np (HDR.ext hE);clear hE HER HIR HM HI3 HE3 HDR HD3 HCT;obtain ⟨R1,qb,ov,-,rQ⟩:=kV w4 (·<w4.heap.size) (fun b h=>h) [4,-4,1] (by decide) (by decide) #[.int .i64 4,.int .i64 (-4),.int .i64 1] rfl 3 rfl;have HM:=np rQ.now;have HER:=np (HE4.trans ov);have HDR:=np (HD4.ext ov);clear rQ ov;go_wp2_with fail;clear qb;refine p_ (HRE _ _ _ HDR HM) (HER.trans) ?_;intro w5 HE5;go_wp2_with fail;go_ret;exact ⟨rfl,HE5⟩
theorem Z4m {n:Nat} {m:oP} (o4:1<=n) (hn:n<=4) (hm:m.length<=4) (hw:∀ x∈m,x.length=n) (h9:∀ x∈m,aN 9 x) (P:oQ) (hP:dM P=0) (hPl:P.length=n) (vals:Bool) :
  ∃ F R A S C M,di n F m R A S/\(if vals then A else S)=C/\(if vals then S else A)=M/\di n F C C M C/\di n F M M C M/\gW n F P m C M vals:=by
 obtain ⟨F,R,A,S,h1,h2,h3,h4,h5⟩:=Z25 o4 hn hm hw h9 P hP hPl;cases vals;·exact ⟨F,R,A,S,S,A,h1,rfl,rfl,h2,h3,h4⟩
 ·exact ⟨F,R,A,S,A,S,h1,rfl,rfl,h3,h2,h5⟩
theorem Z1X {n:Nat} {m:oP} (hm:ae n m) {u v:oQ} (hv:fw n m v) (hu:cE n m u):a_ u v n=0:=by
 obtain ⟨hl,D,hD,hs⟩:=hv;have h:=lN hm hs hu;rw [fV,T7_] at h;rcases Int.mul_eq_zero.1 h with h | h;·exact absurd h hD
 ·exact h
theorem Z2s {n:Nat} {C:oP} {x:oQ} (hx:x∈C):Sp n (aG 0 C) x:=by
 obtain ⟨i,hi,rfl⟩:=jS hx;exact .mem ⟨i,Nat.zero_le _,hi,rfl⟩
theorem nS {w:World} {B:Nat} {x y z:Value} (h:w.heap[B]?=some (.cells #[x,y,z] 24 (0,0))):w.cell? ⟨B,0,none⟩=some x/\w.cell? ⟨B,1,none⟩=some y/\w.cell? ⟨B,2,none⟩=some z:=by
 have h0:=ag h 0;have h1:=ag h 1;have h2:=ag h 2;simp only [oF,oE,oD] at h0 h1 h2;exact ⟨h0,h1,h2⟩
theorem Z5K {n:Nat} {m:oP} (hm:∀ x∈m,x.length=n) {x:oQ} (hx:x∈m):fw n m x:=by
 refine ⟨hm x hx,1,by decide,?_⟩;have:bW 1 x=x:=by unfold bW;simp
 rw [this];exact Z2s hx
theorem Z4R {n F:Nat} {P:oQ} {m C M:oP} {vals:Bool} (hn:n<=4) (hm:∀ x∈m,x.length=n) (h9:∀ x∈m,aN 9 x) (hT:gW n F P m C M vals) {v:oQ} (h:cE n M v):Sp n (aG 0 C) v:=by
 have hW:ae n m:=fun i hi=>hm _ (eZ hi);have IW:ae n M:=fun i hi=>(hT.right.bM _ (eZ hi)).2;rw [hT.spC];cases vals
 ·simp only [Bool.false_eq_true,if_false];have hg:=gsz hn;obtain ⟨-,T,qs,-,-,-,-,-,-,b7⟩:=nI n 9 6 26 m hm h9 (by decide) (by decide) (n8 (nL hn) (by decide)) hg.1 hg.2.1 hg.2.2.1 hg.2.2.2;obtain ⟨D,hD,hs⟩:=b7 v h.1 fun u hu=>lN IW ((hT.spM u).2 (by simpa using hu)) h;exact ⟨h.1,D,hD,hs⟩
 ·simp only [if_true];exact ⟨h.1,fun i hi=>lN IW ((hT.spM _).2 (by simpa using Z5K hm (eZ hi))) h⟩
theorem Z52 {n F:Nat} {P:oQ} {m C M:oP} {vals:Bool} (hm:∀ x∈m,x.length=n) (hT:gW n F P m C M vals) {v:oQ} (h:Sp n (aG 0 C) v) {r:oQ} (hr:r∈M):a_ r v n=0:=by
 have hW:ae n m:=fun i hi=>hm _ (eZ hi);have h1:=(hT.spC v).1 h;have h2:=(hT.spM r).1 (Z2s hr);cases vals
 ·simp only [Bool.false_eq_true,if_false] at h1 h2;exact Z1X hW h1 h2
 ·simp only [if_true] at h1 h2;rw [fV];exact Z1X hW h2 h1
def fy (n c d:Nat):Nat->oP->Option (oP×Bool)
 | 0,_=>none
 | f+1,m =>
  if bV n m then
   match bQ c d m (m.length-d) with
   | none=>some (m,false)
   | some a=>match dL c d (bF m d a) (m.length-(d+1)) with
    | none=>none
    | some (m2,true)=>fy n c d f m2
    | some (m2,false)=>some (m2,true)
  else none
theorem mh (n c d f:Nat) (m:oP):fy n c d (f+1) m=if bV n m then
   match bQ c d m (m.length-d) with
   | none=>some (m,false)
   | some a=>match dL c d (bF m d a) (m.length-(d+1)) with
    | none=>none
    | some (m2,true)=>fy n c d f m2
    | some (m2,false)=>some (m2,true)
  else none:=rfl
def cH (n k:Nat):List Nat:=if k=n then [] else ai n (k+1)
def dV (n k:Nat) (X:oQ) (i s:Nat):Int:=if s.testBit i=true then eQ (X.getD (eY n k (s ^^^ (1 <<< i))) 0) (gF (1 <<< i) (s ^^^ (1 <<< i))) else 0
def Z5Q (n i:Nat):List Int:=(List.replicate n (0:Int)).set i 1
def Z4f (n k:Nat) (X:oQ) (i:Nat):List Int:=(cH n k).map (dV n k X i)++Z5Q n i
def jO (n k:Nat) (X:oQ):oP:=(List.range n).map (Z4f n k X)
def nH (N F:Nat) (m:oP):Nat->Option (oP×Nat)
 | 0=>some (m,0)
 | c+1=>match nH N F m c with
  | none=>none
  | some (m1,d)=>match fy N c d F m1 with
   | none=>none
   | some (m2,p)=>some (m2,if p then d+1 else d)
theorem W7_ (N F:Nat) (m:oP) (c:Nat):nH N F m (c+1)=match nH N F m c with
  | none=>none
  | some (m1,d)=>match fy N c d F m1 with
   | none=>none
   | some (m2,p)=>some (m2,if p then d+1 else d):=rfl
def nJ (F n k:Nat) (X:oQ):Option (oP) :=
 match nH ((cH n k).length+n) F (jO n k X) (cH n k).length with
 | none=>none
 | some (m,d)=>some ((m.drop d).map (·.drop (cH n k).length))
def Z4L (n F:Nat) (m:oP):Option (oP):=(dG n F n 0 0 m).map (·.1)
theorem js {n k i s:Nat} {X:oQ} (h:s.testBit i=true):dV n k X i s=eQ (X.getD (eY n k (s ^^^ (1 <<< i))) 0) (gF (1 <<< i) (s ^^^ (1 <<< i))):=if_pos h
theorem kW {n k i s:Nat} {X:oQ} (h:s.testBit i=false):dV n k X i s=0:=if_neg (by rw [h];decide)
end Go.Proofs.YtoonaddcfakamaaGreatDoor
