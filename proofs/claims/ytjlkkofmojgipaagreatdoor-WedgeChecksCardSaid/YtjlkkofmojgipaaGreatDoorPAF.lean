import Derived.Test.YtjlkkofmojgipaaGreatDoorPAA
import Derived.Laws.Bits64b
import Derived.Test.YtjlkkofmojgipaaGreatDoorPAD
namespace Go.Proofs.YtjlkkofmojgipaaGreatDoor
set_option linter.unusedVariables false
set_option linter.unusedSimpArgs false
open Go.RowKit
def wordsL (n:Nat):Nat→Nat→Nat→List Nat
 | 0,_,s=>[s]
 | k+1,f,s=>(List.range (n-k-f)).flatMap fun d=>wordsL n k (f+d+1) (s ||| (1 <<< (f+d)))
def allW (n k:Nat):List Nat:=wordsL n k 0 0
def wordsTo (n k f s d:Nat):List Nat:=(List.range d).flatMap fun d=>wordsL n k (f+d+1) (s ||| (1 <<< (f+d)))
theorem wordsTo_succ (n k f s d:Nat):wordsTo n k f s (d+1)=wordsTo n k f s d++wordsL n k (f+d+1) (s ||| (1 <<< (f+d))):=by
 unfold wordsTo;rw [List.range_succ,List.flatMap_append];simp
theorem wordsL_succ (n k f s:Nat):wordsL n (k+1) f s=wordsTo n k f s (n-k-f):=rfl
theorem or_lt {s i m:Nat} (hs:s<2^m) (hi:i<m):s ||| (1 <<< i)<2^m:=by
 rw [Nat.one_shiftLeft]
 exact Nat.or_lt_two_pow hs (Nat.pow_lt_pow_right (by decide) hi)
theorem wordsL_lt {n m:Nat} (hnm:n≤m):∀ (k f s:Nat),s<2^m→k≤n→∀ x∈wordsL n k f s,x<2^m
 | 0,f,s,hs,_,x,hx=>by
  rw [wordsL,List.mem_singleton] at hx;rw [hx];exact hs
 | k+1,f,s,hs,hk,x,hx=>by
  rw [wordsL,List.mem_flatMap] at hx
  obtain ⟨d,hd,hx⟩:=hx
  have:=List.mem_range.1 hd
  exact wordsL_lt hnm k _ _ (or_lt hs (by omega)) (by omega) x hx
theorem allW_lt {n k:Nat} (hn:n≤12) (hk:k≤n):∀ x∈allW n k,x<4096:=wordsL_lt hn k 0 0 (by decide) hk
theorem allW_len {n k:Nat} (hn:n≤12) (hk:k≤n):(allW n k).length≤924:=by
 have h:∀ m,m≤12→∀ j,j≤m→(allW m j).length≤924:=by decide +kernel
 exact h n hn k hk
def membL (s:Nat):List Nat:=(List.range 12).filter fun i=>s.testBit i
def lowB (s:Nat):Nat:=(membL s).headD 0
theorem membL_step:∀ s,s<4096→s≠0→membL s=lowB s::membL (s &&& (s-1)):=by
 have h:∀ a,a<64→∀ b,b<64→64*a+b≠0→membL (64*a+b)=lowB (64*a+b)::membL ((64*a+b) &&& (64*a+b-1)):=by decide +kernel
 intro s hs h0
 have:=h (s / 64) (by omega) (s%64) (by omega) (by omega)
 rwa [Nat.div_add_mod] at this
theorem and_pred_lt:∀ s,s<4096→s≠0→s &&& (s-1)<s:=by
 have h:∀ a,a<64→∀ b,b<64→64*a+b≠0→(64*a+b) &&& (64*a+b-1)<64*a+b:=by decide +kernel
 intro s hs h0
 have:=h (s / 64) (by omega) (s%64) (by omega) (by omega)
 rwa [Nat.div_add_mod] at this
end Go.Proofs.YtjlkkofmojgipaaGreatDoor
namespace Go.Proofs.YtjlkkofmojgipaaGreatDoor
set_option linter.unusedVariables false
set_option linter.unusedSimpArgs false
def fromS (s:List Nat):Nat:=match s.getLast? with | some x=>x+1 | none=>0
def growS (n:Nat) (l:List (List Nat)):List (List Nat):=l.flatMap fun s=>(List.range' (fromS s) (n-fromS s)).map fun x=>s++[x]
def setsL (n:Nat):Nat→List (List Nat)
 | 0=>[[]]
 | k+1=>growS n (setsL n k)
def topI (n k:Nat) (s:List Nat):Nat→Option Nat
 | 0=>none
 | i+1=>if s.getD i 0+k=n+i then topI n k s i else some i
def nxtS (n k:Nat) (s:List Nat):Option (List Nat):=match topI n k s k with
 | none=>none
 | some i=>some (s.take i++(List.range (k-i)).map fun j=>s.getD i 0+1+j)
def encS (s:List Nat):Nat:=s.foldl (fun a x=>a*16+x) 0
def chainB (n k:Nat):List (List Nat)→Bool
 | []=>false
 | [s]=>decide (nxtS n k s=none)
 | s::t::l=>decide (nxtS n k s=some t) && (decide (encS s<encS t) && chainB n k (t::l))
def setOk (n k:Nat) (s:List Nat):Bool:=decide (s.length=k) && (s.all (fun x=>decide (x<n)) && decide (encS s<1000000000000000000))
def chooseS (n:Nat):Nat→Nat
 | 0=>1
 | i+1=>chooseS n i*(n-i) / (i+1)
def setsOk (n k:Nat):Bool:=decide ((setsL n k).head?=some (List.range k)) && chainB n k (setsL n k) && (setsL n k).all (setOk n k) && decide (chooseS n k=(setsL n k).length) && decide ((setsL n k).length≤1000)
theorem sets_all:∀ n,n<13→∀ k,k<n+1→setsOk n k=true:=by decide +kernel
theorem chain_get {n k:Nat}:∀ {l:List (List Nat)},chainB n k l=true→∀ (i:Nat) s,l[i]?=some s→nxtS n k s=l[i+1]?
 | [],h,i,s,hs=>by simp at hs
 | [t],h,i,s,hs=>by
  cases i with
  | zero =>
   simp only [List.getElem?_cons_zero,Option.some.injEq] at hs
   subst hs
   simpa [chainB] using h
  | succ i=>simp at hs
 | a::b::l,h,i,s,hs=>by
  simp only [chainB,Bool.and_eq_true,decide_eq_true_eq] at h
  cases i with
  | zero =>
   simp only [List.getElem?_cons_zero,Option.some.injEq] at hs
   subst hs
   simpa using h.1
  | succ i =>
   rw [List.getElem?_cons_succ] at hs ⊢
   exact chain_get h.2.2 i s hs
theorem chain_up {n k:Nat}:∀ {l:List (List Nat)},chainB n k l=true→∀ (i:Nat) s t,l[i]?=some s→l[i+1]?=some t→encS s<encS t
 | [],h,i,s,t,hs,ht=>by simp at hs
 | [a],h,i,s,t,hs,ht=>by simp at ht
 | a::b::l,h,i,s,t,hs,ht=>by
  simp only [chainB,Bool.and_eq_true,decide_eq_true_eq] at h
  cases i with
  | zero =>
   simp only [List.getElem?_cons_zero,List.getElem?_cons_succ,Option.some.injEq] at hs ht
   subst hs;subst ht
   exact h.2.1
  | succ i =>
   rw [List.getElem?_cons_succ] at hs ht
   exact chain_up h.2.2 i s t hs ht
structure SetsS (n k:Nat) (L:List (List Nat)):Prop where
 head:L[0]?=some (List.range k)
 next:∀ (i:Nat) s,L[i]?=some s→nxtS n k s=L[i+1]?
 len:∀ s∈L,s.length=k
 lt:∀ s∈L,∀ x∈s,x<n
 up:∀ (i:Nat) s t,L[i]?=some s→L[i+1]?=some t→encS s<encS t
 bd:∀ s∈L,encS s<1000000000000000000
theorem sets_ok {n k:Nat} (hn:n≤12) (hk:k≤n):SetsS n k (setsL n k)∧chooseS n k=(setsL n k).length∧(setsL n k).length≤1000:=by
 have h:=sets_all n (by omega) k (by omega)
 simp only [setsOk,Bool.and_eq_true,decide_eq_true_eq,List.all_eq_true,setOk] at h
 obtain ⟨⟨⟨⟨h1,h2⟩,h3⟩,h4⟩,h5⟩:=h
 exact ⟨⟨by rw [← List.head?_eq_getElem?];exact h1,chain_get h2,fun s hs=>(h3 s hs).1,fun s hs=>(h3 s hs).2.1,chain_up h2,fun s hs=>(h3 s hs).2.2⟩,h4,h5⟩
end Go.Proofs.YtjlkkofmojgipaaGreatDoor
namespace Go.Proofs.YtjlkkofmojgipaaGreatDoor
set_option linter.unusedVariables false
set_option linter.unusedSimpArgs false
open Go.RowKit
def placeW (n k s:Nat):Nat:=(allW n k).findIdx (· == s)
def belowN (s i:Nat):Nat:=((membL s).filter fun j=>decide (j<i)).length
def oddW (s t:Nat):Bool:=decide (((membL s).map (belowN t)).sum%2=1)
def mergeL:Nat→List Nat→List Nat→Option (List Nat)
 | 0,_,_=>none
 | _+1,[],b=>some b
 | _+1,a,[]=>some a
 | f+1,x::a,y::b=>if x=y then none else if x<y then (mergeL f a (y::b)).map (x::·) else (mergeL f (x::a) b).map (y::·)
def mergedL (a b:List Nat):Option (List Nat):=mergeL (a.length+b.length+1) a b
def placeL (l:List (List Nat)) (s:List Nat):Nat:=l.findIdx (· == s)
def invN:List Nat→Nat
 | []=>0
 | x::l=>(l.filter fun y=>decide (y<x)).length+invN l
def oddL (l:List Nat):Bool:=decide (invN l%2=1)
def agreeB (n k:Nat):Bool:=decide ((allW n k).map membL=setsL n k) && ((allW n k).all fun s=>decide (placeW n k s=placeL (setsL n k) (membL s)) && decide (placeW n k s<(setsL n k).length))
theorem agree_all:∀ n,n<7→∀ k,k<n+1→agreeB n k=true:=by decide +kernel
theorem agree_len:∀ n,n<13→∀ k,k<n+1→(allW n k).length=(setsL n k).length:=by decide +kernel
def pairB (n a b:Nat):Bool:=(allW n a).all fun s=>(allW n b).all fun t =>
 if s &&& t=0 then decide (mergedL (membL s) (membL t)=some (membL (s ||| t))) && (decide ((s ||| t)∈allW n (a+b)) && decide (oddW s t=oddL (membL s++membL t))) else decide (mergedL (membL s) (membL t)=none)
theorem pair_all:∀ n,n<6→∀ a,a<n+1→∀ b,b<n+1-a→pairB n a b=true:=by decide +kernel
def sgnI (x:Int) (o:Bool):Int:=if o=true then -x else x
theorem sgnI_abs (x:Int) (o:Bool):(sgnI x o).natAbs=x.natAbs:=by unfold sgnI;split <;> simp
def AbsLe (N:Nat) (l:List Int):Prop:=∀ x∈l,x.natAbs≤N
theorem AbsLe.getD {N:Nat} {l:List Int} (h:AbsLe N l) (i:Nat):(l.getD i 0).natAbs≤N:=by
 rw [List.getD_eq_getElem?_getD]
 cases hx:l[i]? with
 | none=>simp
 | some x=>exact h x (List.mem_of_getElem? hx)
def restW (n s:Nat):Nat:=(2^n-1) ^^^ s
def dualL (n k:Nat) (X:List Int):List Int:=(allW n (n-k)).map fun s=>sgnI (X.getD (placeW n k (restW n s)) 0) (oddW (restW n s) s)
def intTo (n k:Nat) (X r:List Int) (s:Nat):Nat→Int
 | 0=>0
 | i+1=>if s.testBit i=true then intTo n k X r s i else intTo n k X r s i+sgnI (r.getD i 0*X.getD (placeW n k (s ||| (1 <<< i))) 0) (oddW (1 <<< i) s)
def intL (n k:Nat) (X r:List Int):List Int:=(allW n (k-1)).map fun s=>intTo n k X r s n
def contTo (X:List Int) (i:Nat):Nat:=(X.take i).foldl (fun g x=>Nat.gcd g x.natAbs) 0
def contL (X:List Int):Nat:=contTo X X.length
theorem contTo_succ {X:List Int} {i:Nat} {x:Int} (h:X[i]?=some x):contTo X (i+1)=Nat.gcd (contTo X i) x.natAbs:=by
 unfold contTo
 rw [List.take_add_one,h,List.foldl_append];rfl
theorem sets_map {n k:Nat} (hn:n<7) (hk:k≤n):(allW n k).map membL=setsL n k:=by
 have h:=agree_all n hn k (by omega)
 unfold agreeB at h
 simp only [Bool.and_eq_true,decide_eq_true_eq] at h
 exact h.1
theorem sets_get {n k i s:Nat} (hn:n<7) (hk:k≤n) (h:(allW n k)[i]?=some s):(setsL n k)[i]?=some (membL s):=by
 rw [← sets_map hn hk,List.getElem?_map,h];rfl
theorem place_get {n k s:Nat} (hn:n<7) (hk:k≤n) (h:s∈allW n k):placeW n k s=placeL (setsL n k) (membL s)∧placeW n k s<(allW n k).length:=by
 have h2:=agree_all n hn k (by omega)
 unfold agreeB at h2
 simp only [Bool.and_eq_true,decide_eq_true_eq,List.all_eq_true] at h2
 have h3:=h2.2 s h
 have h4:=agree_len n (by omega) k (by omega)
 exact ⟨h3.1,by omega⟩
theorem pair_get {n a b s t:Nat} (hn:n<6) (ha:a≤n) (hb:a+b≤n) (hs:s∈allW n a) (ht:t∈allW n b) :
  (s &&& t=0∧mergedL (membL s) (membL t)=some (membL (s ||| t))∧(s ||| t)∈allW n (a+b)∧oddW s t=oddL (membL s++membL t))∨(s &&& t≠0∧mergedL (membL s) (membL t)=none):=by
 have h:=pair_all n hn a (by omega) b (by omega)
 unfold pairB at h
 have h2:=List.all_eq_true.1 (List.all_eq_true.1 h s hs) t ht
 by_cases h0:s &&& t=0
 ·rw [if_pos h0] at h2
  simp only [Bool.and_eq_true,decide_eq_true_eq] at h2
  exact .inl ⟨h0,h2.1,h2.2.1,h2.2.2⟩
 ·rw [if_neg h0] at h2
  exact .inr ⟨h0,of_decide_eq_true h2⟩
def restB (n k:Nat):Bool:=(allW n (n-k)).all fun s=>decide (restW n s∈allW n k) && decide ((List.range n).filter (fun i=>!(membL s).contains i)=membL (restW n s))
theorem rest_all:∀ n,n<7→∀ k,k<n+1→restB n k=true:=by decide +kernel
theorem rest_get {n k s:Nat} (hn:n<7) (hk:k≤n) (hs:s∈allW n (n-k)):restW n s∈allW n k∧(List.range n).filter (fun i=>!(membL s).contains i)=membL (restW n s):=by
 have h:=rest_all n hn k (by omega)
 unfold restB at h
 have h2:=List.all_eq_true.1 h s hs
 simp only [Bool.and_eq_true,decide_eq_true_eq] at h2
 exact h2
theorem unit_all:∀ n,n<7→∀ i,i<n→(1 <<< i)∈allW n 1∧membL (1 <<< i)=[i]:=by decide +kernel
theorem bit_all:∀ n,n<7→∀ k,k<n+1→∀ s∈allW n k,∀ i,i<n→((s.testBit i=true)↔(1 <<< i) &&& s≠0):=by decide +kernel
theorem or_comm' (a b:Nat):a ||| b=b ||| a:=Nat.or_comm a b
theorem infoUint:(Tryz.prog.info? 100).map (fun i=>(i.zero,i.size,i.bytes))=some (some (.int .u64 0),1,8):=by kernel_rfl
def u64C (_:World) (u:List Value) (x:Nat):Prop:=u=[.int .u64 (x:Int)]
theorem u64C.mono:Mono u64C:=fun _ _ _ _ _ h=>h
abbrev Uints (w:World) (v:Value) (xs:List Nat):Prop:=ListAt 1 u64C w v xs
theorem Uints.ext {w w':World} {v:Value} {xs:List Nat} (h:Uints w v xs) (he:Ext w w'):Uints w' v xs:=ListAt.ext u64C.mono h he
theorem Uints.open {w:World} {v:Value} {xs:List Nat} (h:Uints w v xs):∃ (a:Option Addr) (cap:Nat),v=.slice a xs.length cap∧xs.length≤cap∧cap≤maxLen ∧
  (xs≠[]→∃ b off,a=some ⟨b,off,none⟩∧b<w.heap.size∧∀ (j:Nat) x,xs[j]?=some x→w.cell? ⟨b,off+j,none⟩=some (.int .u64 (x:Int))):=by
 obtain ⟨a,cap,hv,h1,h2,-,h4⟩:=ListAt.open h
 refine ⟨a,cap,hv,h1,h2,fun hne=>?_⟩
 obtain ⟨b,off,ha,hb,hc⟩:=h4 (by decide) hne
 refine ⟨b,off,ha,hb,fun j x hx=>?_⟩
 obtain ⟨u,hu,hr,hcell⟩:=hc j x hx
 have:=hcell 0 (by decide)
 rw [hr] at this
 simpa using this
theorem Build.box {w:World} {base:Nat} {e:TypeId} {v:Value} {xs:List Nat} (h:Build w base e 1 v u64C xs) {g:Nat} (hg:g<base) (y:Value):Build (w.setCell ⟨g,0,none⟩ y) base e 1 v u64C xs:=by
 obtain ⟨us,h1,h2,h3,h4⟩:=h
 refine ⟨us,h1,h2,ownsRow_setCell_other h3 (fun e=>?_) y,fun j u x hu hx w' _=>(h4 j u x hu hx).now⟩
 have:=(h3.lt g e).1
 omega
def WordsR (g base:Nat) (L:List Nat) (w:World) (e:Ending) (w':World):Prop :=
 e=.returned (.tuple #[])∧Below g w w'∧∃ so,w'.heap[g]?=some (.cells #[so] 98 (0,0))∧Build w' base 100 1 so u64C L
set_option maxRecDepth 100000 in
set_option maxHeartbeats 1000000 in
theorem add1_any (s g base:Nat) (w:World) (so:Value) (L:List Nat) (hg:w.heap[g]?=some (.cells #[so] 98 (0,0))) (hB:Build w base 100 1 so u64C L) (hgb:g<base) (hbase:base≤w.heap.size) (hl:L.length<1000000) :
  Calls Tryz.prog 118 #[.int .u64 (s:Int),.pointer (some ⟨g,0,none⟩)] w (WordsR g base (L++[s]) w):=by
 have k0:=block_cell hg 0
 simp only [List.getElem?_toArray,List.getElem?_cons_zero] at k0
 have HB:=Lib.hid hB;have HG:=Lib.hid hg
 obtain ⟨a,c,rfl,hc1,hc2,-⟩:=ListAt.open hB.list
 unfold maxLen at hc2
 have HN:=Lib.hid (fun b=>hB.lt b)
 obtain ⟨n,hn⟩:∃ n,L.length=n:=⟨_,rfl⟩
 rw [hn] at HB HG k0 hc1 HN hl
 have hl2:L.length<1000000:=by omega
 have HL2:=Lib.hid hl2
 clear hg hB hn hl2
 go_enter Tryz.func118,Tryz.ntmps118
 go_wp2_with (at_builtin;go_must (refine wpList_append_build _ rfl _ _ 98 rfl base 100 (.int .u64 0) 1 8 Tryz.underlying98 infoUint rfl (by decide) (.slice a n c) u64C L s #[.int .u64 (s:Int)] 100 rfl HB.out rfl rfl ?e1 (fun _ _=>rfl) HL2.out ?e3 hbase ?_))
 case e1=>simp [Value.oneCell']
 case e3=>omega
 intro v' w5 hB5 hg5 hb5 hs5 _
 have HB5:=Lib.hid hB5
 have hE:Below g w w5:=Below.mono hb5 (by omega)
 have hk:=(Below.block hb5 g hgb).trans HG.out
 have HE:=Lib.hid hE;have HK:=Lib.hid hk
 have k1:=block_cell hk 0
 have f1:=block_free hk 0
 simp only [List.getElem?_toArray,List.getElem?_cons_zero] at k1
 obtain ⟨a2,c2,rfl,-⟩:=ListAt.open hB5.list
 clear hB5 hg5 hb5 hE hk k0
 go_wp2_with fail
 have hfin:=block_set HK.out 0 (Value.slice a2 (L++[s]).length c2)
 refine bodyPost_end (results_none rfl _ _ _) rfl ⟨rfl,HE.out.setCell (Nat.le_refl _) _,_,by simpa using hfin,HB5.out.box hgb _⟩
def WordsOk (n g base k:Nat):Prop:=∀ (f s:Nat) (w:World) (so:Value) (L:List Nat),f≤n→s<4096→k≤n→w.heap[g]?=some (.cells #[so] 98 (0,0))→Build w base 100 1 so u64C L→g<base→base≤w.heap.size→L.length+(wordsL n k f s).length≤1000 →
 Calls Tryz.prog 117 #[.int .i64 f,.int .i64 n,.int .i64 k,.int .u64 (s:Int),.func (.func 118) #[] #[.pointer (some ⟨g,0,none⟩)]] w (WordsR g base (L++wordsL n k f s) w)
set_option maxRecDepth 100000 in
set_option maxHeartbeats 1000000 in
theorem words_zero (n g base:Nat) (hn:n≤12):WordsOk n g base 0:=by
 intro f s w so L hf hs hk hg hB hgb hbase hl
 have HA:=Lib.hid (add1_any s g base w so L hg hB hgb hbase (by rw [wordsL] at hl;simp at hl;omega))
 have HW:Hid (wordsL n 0 f s=[s]):=rfl
 rw [HW.out]
 clear hg hB hl
 go_enter Tryz.func117,Tryz.ntmps117
 go_wp2_with fail
 refine HA.out.mono ?_
 rintro e w1 ⟨rfl,h1,h2⟩
 have H1:=Lib.hid h1;have H2:=Lib.hid h2
 clear h1 h2 HA
 go_wp2_with fail
 refine bodyPost_ret (results_none rfl _ _ _) rfl ⟨rfl,H1.out,H2.out⟩
theorem one_shl (i:Nat) (hi:i<12):IntKind.u64.wrap ((2:Int)^i)=((1 <<< i:Nat):Int)∧(1 <<< i)<4096:=by
 have h:∀ j,j<12→IntKind.u64.wrap ((2:Int)^j)=((1 <<< j:Nat):Int)∧(1 <<< j)<4096:=by decide +kernel
 exact h i hi
set_option maxRecDepth 100000 in
set_option maxHeartbeats 2000000 in
theorem words_succ (n g base k:Nat) (hn:n≤12) (ih:WordsOk n g base k):WordsOk n g base (k+1):=by
 intro f s w so L hf hs hk hg hB hgb hbase hl
 have HIH:=Lib.hid ih
 have HG:=Lib.hid hg;have HB:=Lib.hid hB
 have HLN:=Lib.hid hl
 have HKN:=Lib.hid hk;have HSL:=Lib.hid hs
 obtain ⟨K,hK⟩:∃ K,k+1=K:=⟨_,rfl⟩
 have HWS:Hid (wordsL n K f s=wordsTo n k f s (n-k-f)):=by rw [← hK];exact wordsL_succ n k f s
 rw [hK] at HLN hk ⊢
 have HK:=Lib.hid hK
 have hkz:((K:Int) == 0)=false:=beq_eq_false_iff_ne.2 (by omega)
 clear hg hB hl ih hK
 go_enter Tryz.func117,Tryz.ntmps117
 go_wp2_with fail
 clear hkz
 go_loopw [10] (fun t wr=>∃ d:Nat,d≤n-k-f∧t=.int .i64 ((f+d:Nat):Int)∧Hid (Below g w wr)∧Hid (∃ so,wr.heap[g]?=some (.cells #[so] 98 (0,0))∧Build wr base 100 1 so u64C (L++wordsTo n k f s d))) (fun t _=>(n:Int).toNat+1-(intOf t).toNat)
 case atStart=>exact ⟨0,by omega,by simp,Below.refl _ _,_,HG.out,by simpa [wordsTo] using HB.out⟩
 case round =>
  obtain ⟨d,hd,rfl,HX,HBB⟩:=hrel
  obtain ⟨wo,rfl⟩:∃ wo:World,wo=wr:=⟨_,rfl⟩
  by_cases hlt:d<n-k-f
  ·obtain ⟨so2,hg2,hB2⟩:=HBB.out
   obtain ⟨i,hi⟩:∃ i,f+d=i:=⟨_,rfl⟩
   rw [hi]
   obtain ⟨e1,e2⟩:=one_shl i (by omega)
   obtain ⟨m,hm⟩:∃ m:Nat,1 <<< i=m:=⟨_,rfl⟩
   rw [hm] at e1 e2
   have e3:=bits_or_u64_nat s m (by have:=HSL.out;omega) (by omega)
   have hor:s ||| m<4096:=by rw [← hm];exact or_lt (m:=12) HSL.out (by omega)
   have hlen:(L++wordsTo n k f s d).length+(wordsL n k (i+1) (s ||| m)).length≤1000:=by
    have h1:=HLN.out
    rw [HWS.out] at h1
    have h2:=wordsTo_succ n k f s d
    rw [hi,hm] at h2
    have h4:=congrArg List.length h2
    rw [List.length_append] at h4
    have h3:(wordsTo n k f s (d+1)).length≤(wordsTo n k f s (n-k-f)).length:=by
     unfold wordsTo
     obtain ⟨r,hr⟩:∃ r,n-k-f=d+1+r:=⟨n-k-f-(d+1),by omega⟩
     have e9:List.range (d+1+r)=List.range (d+1)++(List.range r).map (d+1+·):=List.range_add ..
     rw [hr,e9,List.flatMap_append,List.length_append]
     exact Nat.le_add_right _ _
    rw [List.length_append];omega
   have HC:=Lib.hid (HIH.out (i+1) (s ||| m) wo so2 (L++wordsTo n k f s d) (by omega) hor (by omega) hg2 hB2 hgb (by have:=(Below.size HX.out);omega) hlen)
   have HS:Hid ((L++wordsTo n k f s d)++wordsL n k (i+1) (s ||| m)=L++wordsTo n k f s (d+1)):=by
    have h2:=wordsTo_succ n k f s d
    rw [hi,hm] at h2
    unfold Hid;rw [h2,List.append_assoc]
   rw [HS.out] at HC
   obtain ⟨q,hq⟩:∃ q,s ||| m=q:=⟨_,rfl⟩
   rw [hq] at e3 HC
   have c1:(i:Int)≤(n:Int)-(K:Int):=by have:=HK.out;omega
   have c2:IntKind.i64.wrap ((i:Int)+1)=((i+1:Nat):Int):=by rw [IntKind.wrap_i64];omega
   have c3:IntKind.i64.wrap ((K:Int)-1)=(k:Int):=by have:=HK.out;rw [IntKind.wrap_i64];omega
   have c4:0≤(i:Int):=by omega
   have c5:(i:Int)≤64:=by omega
   have HII:=Lib.hid hi
   clear hg2 hB2 hor hlen hm hq HS HBB hi e2
   go_wp2_with fail
   refine HC.out.mono ?_
   rintro e w6 ⟨rfl,hE6,hR6⟩
   have HE6:=Lib.hid (HX.out.trans hE6);have HR6:=Lib.hid hR6
   clear hE6 hR6 HC
   go_wp2_with fail
   go_roundw
   case rel=>exact ⟨d+1,by omega,by have:=HII.out;first | (congr 1;omega) | go_num,HE6.out,HR6.out⟩
   case measure=>have:=HII.out;simp [intOf];omega
  ·obtain rfl:d=n-k-f:=by omega
   obtain ⟨i,hi⟩:∃ i,f+(n-k-f)=i:=⟨_,rfl⟩
   rw [hi]
   have c1:¬ (i:Int)≤(n:Int)-(K:Int):=by have:=HKN.out;have:=HK.out;omega
   have hR:=HBB.out
   rw [← HWS.out] at hR
   have HR:=Lib.hid hR
   clear hR HBB hi
   go_wp2_with fail
   refine bodyPost_end (results_none rfl _ _ _) rfl ⟨rfl,HX.out,HR.out⟩
theorem words_any (n g base:Nat) (hn:n≤12):∀ k,WordsOk n g base k
 | 0=>words_zero n g base hn
 | k+1=>words_succ n g base k hn (words_any n g base hn k)
def UintsR (L:List Nat) (w:World) (e:Ending) (w':World):Prop:=∃ v,e=.returned v∧Ext w w'∧Uints w' v L
set_option maxRecDepth 100000 in
set_option maxHeartbeats 1000000 in
theorem all_any (n k:Nat) (hn:n≤12) (hk:k≤n) (w:World):Calls Tryz.prog 60 #[.int .i64 n,.int .i64 k] w (UintsR (allW n k) w):=by
 obtain ⟨w1,hw1⟩:∃ w1,w1=w.alloc (.cells #[.slice none 0 0] 98):=⟨_,rfl⟩
 have hb:w1.heap[w.heap.size]?=some (.cells #[.slice none 0 0] 98 (0,0)):=by rw [hw1];exact block_new w _ _
 have hsz:w1.heap.size=w.heap.size+1:=by rw [hw1];exact World.size_alloc w _
 have hE1:Ext w w1:=by rw [hw1];exact Ext.alloc _ _
 have HC:=Lib.hid (words_any n w.heap.size (w.heap.size+1) hn k 0 0 w1 (.slice none 0 0) [] (by omega) (by decide) hk hb (Build.nil _ _ _ _ _) (by omega) (by omega) (by have:=allW_len hn hk;unfold allW at this;simp;omega))
 have HE1:=Lib.hid hE1
 clear hb hsz hE1
 rw [List.nil_append] at HC
 go_enter Tryz.func60,Tryz.ntmps60
 go_wp2_with fail
 generalize hw9:w.alloc _=w9
 obtain rfl:w9=w1:=by rw [← hw9,hw1]
 refine HC.out.mono ?_
 rintro e w2 ⟨rfl,h2,so,hg2,hB2⟩
 have k0:=block_cell hg2 0
 simp only [List.getElem?_toArray,List.getElem?_cons_zero] at k0
 have hE:Ext w w2:=Below.trans HE1.out h2
 have HE:=Lib.hid hE
 have HL:=Lib.hid hB2.list
 clear hg2 hB2 h2 hE
 go_wp2_with fail
 go_ret
 exact ⟨_,rfl,HE.out,HL.out⟩
def gradeS (n k:Int):Int:=if n<0∨n > 12∨k<0∨k > n then 3 else 0
theorem gradeS_ok {n k:Nat} (hn:n≤12) (hk:k≤n):gradeS n k=0:=if_neg (by omega)
set_option maxRecDepth 100000 in
set_option maxHeartbeats 1000000 in
theorem checkGrade_any (n k:Int) (w:World):Calls Tryz.prog 77 #[.int .i64 n,.int .i64 k] w fun e w'=>e=.returned (.int .i64 (gradeS n k))∧Ext w w':=by
 by_cases h1:n<0
 ·have HG:Hid (gradeS n k=3):=if_pos (.inl h1)
  go_enter Tryz.func77,Tryz.ntmps77
  go_wp2_with fail
  go_ret
  rw [HG.out];exact ⟨rfl,Ext.refl _⟩
 ·by_cases h2:n > 12
  ·have HG:Hid (gradeS n k=3):=if_pos (.inr (.inl h2))
   go_enter Tryz.func77,Tryz.ntmps77
   go_wp2_with fail
   go_ret
   rw [HG.out];exact ⟨rfl,Ext.refl _⟩
  ·by_cases h3:k<0
   ·have HG:Hid (gradeS n k=3):=if_pos (.inr (.inr (.inl h3)))
    go_enter Tryz.func77,Tryz.ntmps77
    go_wp2_with fail
    go_ret
    rw [HG.out];exact ⟨rfl,Ext.refl _⟩
   ·by_cases h4:k > n
    ·have HG:Hid (gradeS n k=3):=if_pos (.inr (.inr (.inr h4)))
     go_enter Tryz.func77,Tryz.ntmps77
     go_wp2_with fail
     go_ret
     rw [HG.out];exact ⟨rfl,Ext.refl _⟩
    ·have HG:Hid (gradeS n k=0):=if_neg (by omega)
     go_enter Tryz.func77,Tryz.ntmps77
     go_wp2_with fail
     go_ret
     rw [HG.out];exact ⟨rfl,Ext.refl _⟩
set_option maxRecDepth 100000 in
set_option maxHeartbeats 2000000 in
theorem decGcd_any (u v:Nat) (w:World) (hu:(numB u).size≤3000000000) (hv:(numB v).size≤3000000000) (ht:Pow10 w) :
  Calls Tryz.prog 182 #[.string (numB u),.string (numB v)] w fun e w'=>e=.returned (.string (numB (Nat.gcd u v)))∧Ext w w':=by
 have HT:=Lib.hid ht
 have HU:=Lib.hid hu;have HV:=Lib.hid hv
 clear ht hu hv
 go_enter Tryz.func182,Tryz.ntmps182
 go_wp2_with fail
 go_loopw [0,1] (fun a b wr=>∃ x y:Nat,a=.string (numB x)∧b=.string (numB y)∧Hid (Nat.gcd x y=Nat.gcd u v)∧Hid ((numB x).size≤3000000000)∧Hid ((numB y).size≤3000000000)∧Hid (Ext w wr)) (fun _ b _=>match b with | .string s=>decV 0 s.data.toList | _=>0)
 case atStart=>exact ⟨u,v,rfl,rfl,rfl,HU.out,HV.out,Ext.refl _⟩
 case round =>
  obtain ⟨x,y,rfl,rfl,HG,HX,HY,HE⟩:=hrel
  obtain ⟨wo,rfl⟩:∃ wo:World,wo=wr:=⟨_,rfl⟩
  have hz:=num_zero y
  by_cases hy:y=0
  ·rw [decide_eq_true hy] at hz
   have HF:Hid (x=Nat.gcd u v):=by unfold Hid;rw [← HG.out,hy,Nat.gcd_zero_right]
   clear hy
   go_wp2_with fail
   go_ret
   exact ⟨by rw [← HF.out];rfl,HE.out⟩
  ·rw [decide_eq_false hy] at hz
   have HD:=Lib.hid (decDivMod_any x y wo HX.out HY.out hy (HT.out.ext HE.out))
   have HG2:Hid (Nat.gcd y (x%y)=Nat.gcd u v):=by
    unfold Hid;rw [← HG.out,Nat.gcd_comm y (x%y),← Nat.gcd_rec,Nat.gcd_comm]
   have HY2:Hid ((numB (x%y)).size≤3000000000):=Nat.le_trans (num_le_mono (Nat.le_of_lt (Nat.mod_lt _ (by omega)))) HY.out
   have HLT:Hid (x%y<y):=Nat.mod_lt _ (by omega)
   have HDV:Hid (∀ n,decV 0 (numB n).data.toList=n):=fun n=>by rw [numB_data,digits_val]
   clear hy
   go_wp2_with fail
   refine HD.out.mono ?_
   rintro e w1 ⟨rfl,hE1⟩
   have HE1:=Lib.hid (Ext.trans HE.out hE1)
   clear hE1 HD
   go_wp2_with fail
   go_roundw
   case rel=>exact ⟨y,x%y,rfl,rfl,HG2.out,HY.out,HY2.out,HE1.out⟩
   case measure=>simp only [HDV.out];exact HLT.out
end Go.Proofs.YtjlkkofmojgipaaGreatDoor
