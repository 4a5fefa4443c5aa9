import Derived.Test.YtjlkkofmojgipaaGreatDoorTAL
import Derived.Test.YtjlkkofmojgipaaGreatDoorTAA
import Derived.Test.YtjlkkofmojgipaaGreatDoorTAT
import Derived.Test.YtjlkkofmojgipaaGreatDoorTAU
import Derived.Laws.BitsAllLaws
import Derived.Test.YtjlkkofmojgipaaGreatDoorTAE
import Derived.Test.YtjlkkofmojgipaaGreatDoorTAB
namespace Go.Proofs.YtjlkkofmojgipaaGreatDoor
set_option linter.unusedVariables false
open Go.RowKit
section
variable {P:Program} {ops:Array Oper} {Q:Exit→Act→World→Prop} {md:Region.Mode} {S:World→Prop} {z:Nat}
theorem anyE_firstN {i:Nat} {oi:Oper} {v:Value} (hi:ops[i]?=some oi) (hsel:∀ (j:Nat) (o:Oper) cs b,ops[j]?=some o→o.op≠.select cs b)
  (hQ:∀ c a w,Q (.panic c) (a.put oi.dst v) w→Q (.panic c) a w) (f:Nat) :
  ∀ (l:Array Bool) (a:Act) (w:World),l.size≤z →
   (∀ j oj,ops[j]?=some oj→j≠i→l.getD j true=false→(∀ e∈oj.after,Region.binds md e=true→e.on≠i)→oi.apart ops oj=true) →
   i∈Region.ready md ops l→YieldsIf P ops S oi v a→S w →
   anyE P md ops Q S z f (l.setIfInBounds i true) (a.put oi.dst v) w→anyE P md ops Q S z (f+1) l a w:=by
 induction f with
 | zero =>
  intro l a w _ _ hr hy hS H
  refine ⟨(fun e=>by rw [e] at hr;cases hr),fun j hj=>?_⟩
  by_cases e:j=i
  ·rw [e];exact hy.wpOp hi hS ⟨fun _=>hS,H⟩
  ·have:=ready_mono hj e
   rw [H.1] at this
   cases this
 | succ f ih =>
  intro l a w hlz hfree hr hy hS H
  refine ⟨(fun e=>by rw [e] at hr;cases hr),fun j hj=>?_⟩
  by_cases e:j=i
  ·rw [e];exact hy.wpOp hi hS ⟨fun _=>hS,H⟩
  have hji:i≠j:=fun x=>e x.symm
  have un:=(mem_ready.1 hj).1
  obtain ⟨oj,hoj,hall⟩:=(mem_ready.1 hj).2
  have ui:=(mem_ready.1 hr).1
  have uf:l.getD i false=true→False:=fun hc=>by rw [not_listed ui] at hc;cases hc
  have hout:∀ l':Array Bool,l'.size≤z→l'.getD z false=false:=fun l' h=>by simp [Array.getElem?_eq_none h]
  have hno:∀ d∈oj.after,Region.binds md d=true→d.on≠i:=fun d hd hb hdi=>uf (by have:=hall d hd hb;rwa [hdi] at this)
  have step:=wpOp_putIf hoj (hfree j oj hoj e un hno) (fun cs b=>hsel i oi cs b hi) (fun cs b=>hsel j oj cs b hoj) hQ hy (H.2 j (ready_mono hj e))
  refine wpOp_mono (fun b u hb=>?_) step
  obtain ⟨hy2,hS2,hrest⟩:=hb
  have hSu:S u:=hS2 (hout _ (by simpa using hlz))
  refine ⟨fun _=>hSu,ih (l.setIfInBounds j true) b u (by simpa using hlz) (fun k ok hk hki hun hn=>?_) (ready_mono hr hji) hy2 hSu ?_⟩
  ·refine hfree k ok hk hki ?_ hn
   by_cases hjk:j=k
   ·rw [← hjk];exact un
   ·rw [getD_set_ne true hjk] at hun;exact hun
  ·rw [Array.setIfInBounds_comm _ _ e];exact hrest
theorem anyE_takeN (i:Nat) {oi:Oper} {v:Value} {f:Nat} {l:Array Bool} {a:Act} {w:World} (hi:ops[i]?=some oi)
  (hs:Region.noSelect ops=true) (hf:Region.free md ops l i=true) (hr:(Region.ready md ops l).contains i=true) (hz:l.size≤z)
  (hQ:∀ c a w,Q (.panic c) (a.put oi.dst v) w→Q (.panic c) a w) (hy:YieldsIf P ops S oi v a) (hS:S w)
  (h:anyE P md ops Q S z f (l.setIfInBounds i true) (a.put oi.dst v) w):anyE P md ops Q S z (f+1) l a w :=
 anyE_firstN hi (Region.noSelect_spec hs) hQ f l a w hz (Region.free_spec hi hf) (by simpa using hr) hy hS h
theorem anyE_lastN (i:Nat) {o:Oper} {f:Nat} {l:Array Bool} {a:Act} {w:World} (hr:Region.ready md ops l=[i]) (hr2:Region.ready md ops (l.setIfInBounds i true)=[]) (ho:ops[i]?=some o)
  (h:∀ K:Act→World→Prop,Shut (∀ b u,S u→Q .normal b u→K b u)→if Region.wanted o (yielded ops a.tmps)=true then Oper.wp P o a w K Q else K (a.put o.dst undef) w):anyE P md ops Q S z (f+1) l a w:=by
 refine ⟨(fun e=>by rw [hr] at e;cases e),fun j hj=>?_⟩
 obtain rfl:j=i:=by rw [hr] at hj;simpa using hj
 refine wpOp_step ho fun K hK=>h K fun b u hS hq=>hK b u ⟨fun _=>hS,?_⟩
 cases f with
 | zero=>exact ⟨hr2,hq⟩
 | succ f=>exact ⟨fun _=>hq,by rw [hr2];simp⟩
end
section
variable {P:Program} {ops O:Array Oper} {Q:Exit→Act→World→Prop} {md:Region.Mode} {S:World→Prop} {z n:Nat}
theorem getopN (hO:Hid (ops=O)) (i:Nat) (h:i<O.size):ops[i]?=some O[i]:=by
 have hO:ops=O:=hO
 subst hO
 exact Array.getElem?_eq_getElem h
end
section
variable {P:Program} {ops O:Array Oper} {Q:Exit→Act→World→Prop} {md:Region.Mode} {S:World→Prop} {z n:Nat}
theorem region_anyEV (S:World→Prop) (z:Nat) (n:Nat) {id:Nat} {a:Act} {w:World} (hm:P.follows .mixedOrders=true) (hn:O.size=n) (hS:S w.drew)
  (h:∀ ops,Hid (ops=O)→S w.drew→anyE P .any ops Q S z n (Array.replicate n false) a w.drew):(Code.region id O true).wp P Q a w :=
 region_anyE S z hm hS (fun hh=>by have:=h O rfl hh;rw [hn];exact this)
theorem anyE_takeWV (hO:Hid (ops=O)) (i:Nat) {oi:Oper} {v:Value} {f:Nat} {l:Array Bool} {a:Act} {w:World} (hi:ops[i]?=some oi)
  (hs:Region.noSelect O=true) (hf:Region.free md O l i=true) (hr:(Region.ready md O l).contains i=true) (hz:decide (i≠z)=true)
  (hQ:∀ c a w,Q (.panic c) (a.put oi.dst v) w→Q (.panic c) a w) (hy:Yields P O oi v a) (hS:S w)
  (h:anyE P md ops Q S z f (l.setIfInBounds i true) (a.put oi.dst v) w):anyE P md ops Q S z (f+1) l a w:=by
 have hO:ops=O:=hO
 subst hO
 exact anyE_takeW i hi hs hf hr (of_decide_eq_true hz) hQ hy hS h
theorem anyE_takeV (hO:Hid (ops=O)) (i:Nat) {oi:Oper} {v:Value} {f:Nat} {l:Array Bool} {a:Act} {w:World} (hi:ops[i]?=some oi)
  (hs:Region.noSelect O=true) (hf:Region.free md O l i=true) (hr:(Region.ready md O l).contains i=true) (hz:decide (l.size≤z)=true)
  (hQ:∀ c a w,Q (.panic c) (a.put oi.dst v) w→Q (.panic c) a w) (hy:YieldsIf P O S oi v a) (hS:S w)
  (h:anyE P md ops Q S z f (l.setIfInBounds i true) (a.put oi.dst v) w):anyE P md ops Q S z (f+1) l a w:=by
 have hO:ops=O:=hO
 subst hO
 exact anyE_takeN i hi hs hf hr (of_decide_eq_true hz) hQ hy hS h
theorem anyE_stepV (hO:Hid (ops=O)) (i:Nat) {o:Oper} {f:Nat} {l:Array Bool} {a:Act} {w:World} (hr:Region.ready md O l=[i]) (ho:ops[i]?=some o)
  (h:∀ K:Act→World→Prop,Shut (∀ b u,S u→(S u→anyE P md ops Q S z f (l.setIfInBounds i true) b u)→K b u)→if Region.wanted o (yielded O a.tmps)=true then Oper.wp P o a w K Q else K (a.put o.dst undef) w):anyE P md ops Q S z (f+1) l a w:=by
 have hO:ops=O:=hO
 subst hO
 exact anyE_step i hr ho h
theorem anyE_lastV (hO:Hid (ops=O)) (i:Nat) {o:Oper} {f:Nat} {l:Array Bool} {a:Act} {w:World} (hr:Region.ready md O l=[i]) (hr2:Region.ready md O (l.setIfInBounds i true)=[]) (ho:ops[i]?=some o)
  (h:∀ K:Act→World→Prop,Shut (∀ b u,S u→Q .normal b u→K b u)→if Region.wanted o (yielded O a.tmps)=true then Oper.wp P o a w K Q else K (a.put o.dst undef) w):anyE P md ops Q S z (f+1) l a w:=by
 have hO:ops=O:=hO
 subst hO
 exact anyE_lastN i hr hr2 ho h
end
end Go.Proofs.YtjlkkofmojgipaaGreatDoor
namespace Go.Proofs.YtjlkkofmojgipaaGreatDoor
set_option linter.unusedVariables false
set_option linter.unusedSimpArgs false
open Go.RowKit Go.Maps
theorem boxM (w:World) (x y z:Value):∃ W,(w.alloc (.cells #[x,y,z] 31))=W∧Ext w W∧W.heap.size=w.heap.size+1∧W.heap[w.heap.size]?=some (.cells #[x,y,z] 31 (0,0)) :=
 ⟨_,rfl,Ext.alloc _ _,by simp,block_new _ _ _⟩
theorem Build.boxAt {w:World} {base:Nat} {e:TypeId} {v:Value} {xs:List Int} (h:Build w base e 1 v numC xs) {g:Nat} (hg:g<base) (j:Nat) (y:Value):Build (w.setCell ⟨g,j,none⟩ y) base e 1 v numC xs:=by
 obtain ⟨us,h1,h2,h3,h4⟩:=h
 refine ⟨us,h1,h2,ownsRow_setCell_other h3 (fun e=>?_) y,fun j u x hu hx w' _=>(h4 j u x hu hx).now⟩
 have:=(h3.lt g e).1
 omega
theorem cell_in {w:World} {b j:Nat} {v:Value} (hc:w.cell? ⟨b,j,none⟩=some v):b<w.heap.size:=by
 by_cases h:b<w.heap.size
 ·exact h
 ·have h0:w.heap[b]?=none:=Array.getElem?_eq_none (Nat.le_of_not_lt h)
  simp [World.cell?,h0] at hc
theorem GrownS.cell {S:Nat→Prop} {w w':World} {b j:Nat} {v:Value} (h:GrownS S w w') (hc:w.cell? ⟨b,j,none⟩=some v) (hb:¬ S b):w'.cell? ⟨b,j,none⟩=some v:=by
 rw [← hc];unfold World.cell?;rw [h.block b (cell_in hc) hb]
theorem GrownS.thenBelow {S:Nat→Prop} {w w' w'':World} {B:Nat} (h:GrownS S w w') (k:Below B w' w'') (hB:w.heap.size≤B):GrownS S w w'' :=
 ⟨k.os.trans h.os,k.tape.trans h.tape,k.output.trans h.output,Nat.le_trans h.size k.size,fun j hj hS=>(k.block j (by omega)).trans (h.block j hj hS)⟩
theorem GrownS.from {S:Nat→Prop} {w w' w'':World} {B:Nat} (h:Below B w w') (k:GrownS S w' w'') (hw:w.heap.size≤B) (hS:∀ j,j<w.heap.size→¬ S j):Ext w w'' :=
 ⟨k.os.trans h.os,k.tape.trans h.tape,k.output.trans h.output,Nat.le_trans h.size k.size,fun j hj=>(k.block j (Nat.lt_of_lt_of_le hj h.size) (hS j hj)).trans (h.block j (by omega))⟩
theorem ext_grownS {S:Nat→Prop} {w w' w'':World} (h:Ext w w') (k:GrownS S w' w'') (hS:∀ j,j<w.heap.size→¬ S j):Ext w w'':=GrownS.from h k (Nat.le_refl _) hS
theorem PlacesM.run {w:World} {v:Value} {n k s:Nat} (h:PlacesM w v n k) (hs:s∈allW n k) (hlt:s<4096):(Instr.lookup 96 v (.int .u64 (s:Int)) false).run Tryz.prog w=.ok (.int .i64 (placeW n k s:Int)) w:=by
 obtain ⟨b,N,rfl,D,hown,hmap,hat⟩:=h
 obtain ⟨c,hrun,hc,hwc⟩:=hown.lookup_int lawU Tryz.underlying96 Tryz.underlying3 (zeroI w) (keyU hlt)
 rw [hat s hs] at hc
 cases hc
 exact hrun
theorem PlacesM.grownS {w w':World} {B:Nat} {v:Value} {n k:Nat} {C:Array Value} {T:TypeId} (h:PlacesM w v n k) (hg:GrownS (·=B) w w') (hB:w.heap[B]?=some (.cells C T (0,0))):PlacesM w' v n k:=by
 obtain ⟨b,N,hv,h1⟩:=h
 refine ⟨b,N,hv,?_⟩
 obtain ⟨D,ho,hm,ha⟩:=h1
 have hne:b≠B:=by
  rintro rfl
  obtain ⟨es,clock,hbk,-⟩:=ho
  rw [hB] at hbk;cases hbk
 have hgb:w.grownBy w' (some B):=⟨hg.os,hg.tape,hg.output,hg.size,fun j hj hne2=>hg.block j hj (fun e=>hne2 (by rw [e]))⟩
 exact ⟨D,ho.kept hgb (fun e=>hne (by cases e;rfl)),hm,ha⟩
theorem multi_nou64 {i:Nat} {s:Int} {n k:Int} {a:Option Addr} {l c:Nat} (h:some (Value.int .u64 s)=(#[Value.int .i64 n,Value.int .i64 k,Value.slice a l c]:Array Value)[i]?):False:=by
 match i,h with
 | 0,h=>simp at h
 | 1,h=>simp at h
 | 2,h=>simp at h
 | i+3,h=>simp at h
theorem rest_andNot:∀ n,n<7→∀ s,s<2^n→(2^n-1) &&& (18446744073709551615-s)=restW n s:=by decide +kernel
theorem rest_bits {n s:Nat} (hn:n<7) (hs:s<2^n):bits .andNot .u64 ((2^n-1:Nat):Int) (s:Int)=((restW n s:Nat):Int):=by
 have h1:2^n≤2^6:=Nat.pow_le_pow_right (by decide) (by omega)
 rw [u64_andNot_nat _ _ (by omega) (by omega),rest_andNot n hn s hs]
theorem shl_small {n:Nat} (hn:n<13):IntKind.u64.wrap ((2:Int)^n)=((2^n:Nat):Int)∧2^n≤4096∧1≤2^n:=by
 have h:∀ m,m<13→IntKind.u64.wrap ((2:Int)^m)=((2^m:Nat):Int)∧2^m≤4096∧1≤2^m:=by decide +kernel
 exact h n hn
theorem allW_two {n k:Nat} (hn:n≤12) (hk:k≤n):∀ x∈allW n k,x<2^n:=wordsL_lt (Nat.le_refl n) k 0 0 (Nat.two_pow_pos n) hk
theorem bit_andW {s i:Nat} (hs:s<4096):bits .and .u64 ((s / 2^i:Nat):Int) 1=if s.testBit i=true then 1 else 0:=by
 have h1:s / 2^i≤s:=Nat.div_le_self _ _
 have h2:=bits_and_u64_nat (s / 2^i) 1 (by omega) (by omega)
 rw [Nat.and_one_is_mod] at h2
 rw [show ((1:Nat):Int)=1 from rfl] at h2
 rw [h2,Nat.testBit_eq_decide_div_mod_eq]
 by_cases h:s / 2^i%2=1
 ·rw [if_pos (by rw [decide_eq_true h]),h];rfl
 ·rw [if_neg (by rw [decide_eq_false h];decide)];omega
theorem oddE_any (s t:Nat) (hs:s<4096) (ht:t<4096) (w:World) :
  Calls Tryz.prog 65 #[.int .u64 s,.int .u64 t] w fun e w'=>e=.returned (.bool (oddW s t))∧Ext w w':=(odd_any s t hs ht w).mono fun e w' ⟨h,h2⟩=>⟨h,h2▸Ext.refl _⟩
end Go.Proofs.YtjlkkofmojgipaaGreatDoor
namespace Go.Proofs.YtjlkkofmojgipaaGreatDoor
set_option linter.unusedVariables false
set_option linter.unusedSimpArgs false
open Go.RowKit
set_option maxRecDepth 100000 in
set_option maxHeartbeats 400000 in
theorem subI_any (x y:Int) (w:World) (hx:(intB x).size≤2800000000) (hy:(intB y).size≤2800000000) (ht:Pow10 w) :
  Calls Tryz.prog 185 #[.string (intB x),.string (intB y)] w fun e w'=>e=.returned (.string (intB (x-y)))∧Ext w w':=by
 have HN:=Lib.hid (neg_any y w (by omega))
 have hny:(intB (-y)).size≤2900000000:=by
  have h1:=intB_size_le (-y)
  have h2:=natAbs_le y
  rw [Int.natAbs_neg] at h1
  omega
 have HA:Hid (∀ W,Ext w W→Calls Tryz.prog 61 #[.string (intB x),.string (intB (-y))] W fun e w'=>e=.returned (.string (intB (x+-y)))∧Ext W w'):=fun W hE=>addI_any x (-y) W (by omega) hny (ht.ext hE)
 rw [show x+-y=x-y by omega] at HA
 clear ht hx hy hny
 go_enter Tryz.func185,Tryz.ntmps185
 go_wp2_with fail
 refine HN.out.mono ?_
 rintro e w0 ⟨rfl,hE0⟩
 have HE0:=Lib.hid hE0
 clear HN hE0
 go_wp2_with fail
 refine (HA.out _ HE0.out).mono ?_
 rintro e w1 ⟨rfl,hE1⟩
 have HE1:=Lib.hid (Ext.trans HE0.out hE1)
 clear hE1 HA
 go_wp2_with fail
 go_ret
 exact ⟨rfl,HE1.out⟩
def smB (n:Int):Bool:=decide ((numB n.natAbs).size≤1000000000)
def sm9B (n:Int):Bool:=decide ((numB n.natAbs).size≤400000000)
theorem smB_iff (n:Int):smB n=true↔(numB n.natAbs).size≤1000000000:=decide_eq_true_iff
theorem sm9B_iff (n:Int):sm9B n=true↔(numB n.natAbs).size≤400000000:=decide_eq_true_iff
def lessL (k:Int):List Int→List Int→List Int
 | r,[]=>r
 | [],_::_=>[]
 | a::r,b::s=>(a-k*b)::lessL k r s
theorem lessL_len (k:Int):∀ r s:List Int,(lessL k r s).length=r.length
 | [],[]=>rfl
 | a::r,[]=>rfl
 | [],_::_=>rfl
 | a::r,b::s=>by simp [lessL,lessL_len k r s]
theorem lessL_get (k:Int):∀ (r s:List Int) (j:Nat) (a b:Int),r[j]?=some a→s[j]?=some b→(lessL k r s)[j]?=some (a-k*b)
 | [],_,j,a,b,h,_=>by simp at h
 | _::_,[],j,a,b,_,h=>by simp at h
 | x::r,y::s,0,a,b,h,h'=>by simp at h h';subst h;subst h';rfl
 | x::r,y::s,j+1,a,b,h,h'=>by
  simp only [List.getElem?_cons_succ] at h h'
  exact lessL_get k r s j a b h h'
def lessO (k:Int) (r s:List Int):Option (List Int) :=
 if k=0 then some r
 else if s.length=r.length∧(sm9B k && s.all sm9B && r.all smB)=true then some (lessL k r s) else none
def rowE_ (m:List (List Int)) (i:Nat):List Int:=m.getD i []
def getE (m:List (List Int)) (i c:Nat):Int:=(rowE_ m i).getD c 0
def bestO (c d:Nat) (m:List (List Int)):Nat→Option Nat
 | 0=>none
 | k+1=>match bestO c d m k with
  | none=>if getE m (d+k) c=0 then none else some (d+k)
  | some a=>if getE m (d+k) c≠0∧(getE m (d+k) c).natAbs<(getE m a c).natAbs then some (d+k) else some a
def swapL {α:Type} (l:List α) (i j:Nat):List α:=match l[i]?,l[j]? with
 | some a,some b=>(l.set i b).set j a
 | _,_=>l
def downO (c d:Nat) (m:List (List Int)):Nat→Option (List (List Int)×Bool)
 | 0=>some (m,false)
 | j+1=>match downO c d m j with
  | none=>none
  | some (m',rest) =>
   if getE m' d c=0 then none
   else match lessO (fdq (getE m' (d+1+j) c) (getE m' d c)) (rowE_ m' (d+1+j)) (rowE_ m' d) with
    | none=>none
    | some r=>some (m'.set (d+1+j) r,rest || decide (fdr (getE m' (d+1+j) c) (getE m' d c)≠0))
def upO (c d:Nat) (m:List (List Int)):Nat→Option (List (List Int))
 | 0=>some m
 | j+1=>match upO c d m j with
  | none=>none
  | some m' =>
   if getE m' d c=0 then none
   else match lessO (fdq (getE m' j c) (getE m' d c)) (rowE_ m' j) (rowE_ m' d) with
    | none=>none
    | some r=>some (m'.set j r)
def okM (n:Nat) (m:List (List Int)):Bool:=m.all fun r=>decide (r.length=n) && r.all smB
def sweepO (n c d:Nat):Nat→List (List Int)→Option (List (List Int)×Bool)
 | 0,_=>none
 | f+1,m =>
  if okM n m then
   match bestO c d m (m.length-d) with
   | none=>some (m,false)
   | some a=>match downO c d (swapL m d a) (m.length-(d+1)) with
    | none=>none
    | some (m2,true)=>sweepO n c d f m2
    | some (m2,false) =>
     if okM n m2 then
      match upO c d (if getE m2 d c<0 then m2.set d ((rowE_ m2 d).map (- ·)) else m2) d with
      | none=>none
      | some m4=>some (m4,true)
     else none
  else none
def colsO (n F:Nat):Nat→Nat→Nat→List (List Int)→Option (List (List Int)×Nat)
 | 0,_,d,m=>some (m,d)
 | k+1,c,d,m =>
  if d<m.length then
   match sweepO n c d F m with
   | none=>none
   | some (m',p)=>colsO n F k (c+1) (if p then d+1 else d) m'
  else some (m,d)
structure RowB (w:World) (g o:Nat) (xs:List Int):Prop where
 lt:g<w.heap.size
 cell:∀ (j:Nat) x,xs[j]?=some x→w.cell? ⟨g,o+j,none⟩=some (.string (intB x))
 free:∀ j,w.frozen? ⟨g,j,none⟩=false
theorem cell_of_heap {w w':World} {g:Nat} (h:w'.heap[g]?=w.heap[g]?) (j:Nat):w'.cell? ⟨g,j,none⟩=w.cell? ⟨g,j,none⟩:=by
 simp [World.cell?,h]
theorem free_of_heap {w w':World} {g:Nat} (h:w'.heap[g]?=w.heap[g]?) (j:Nat):w'.frozen? ⟨g,j,none⟩=w.frozen? ⟨g,j,none⟩:=by
 simp [World.frozen?,h]
theorem RowB.same {w w':World} {g o:Nat} {xs:List Int} (h:RowB w g o xs) (hs:w.heap.size≤w'.heap.size) (hg:w'.heap[g]?=w.heap[g]?):RowB w' g o xs :=
 ⟨Nat.lt_of_lt_of_le h.lt hs,fun j x hx=>(cell_of_heap hg _).trans (h.cell j x hx),fun j=>(free_of_heap hg j).trans (h.free j)⟩
theorem RowB.ext {w w':World} {g o:Nat} {xs:List Int} (h:RowB w g o xs) (he:Ext w w'):RowB w' g o xs:=h.same he.size (he.block g h.lt)
theorem RowB.grown {w w':World} {S:Nat→Prop} {g o:Nat} {xs:List Int} (h:RowB w g o xs) (hg:GrownS S w w') (hS:¬ S g):RowB w' g o xs:=h.same hg.size (hg.block g h.lt hS)
theorem setCell_heap_other (w:World) (g i b:Nat) (v:Value) (h:b≠g):(w.setCell ⟨g,i,none⟩ v).heap[b]?=w.heap[b]?:=by
 by_cases hb:b<w.heap.size
 ·exact (grown_setCell w g i v).block b hb (fun e=>h (by cases e;rfl))
 ·have:(w.setCell ⟨g,i,none⟩ v).heap.size=w.heap.size:=by simp [World.setCell]
  rw [Array.getElem?_eq_none (by omega),Array.getElem?_eq_none (by omega)]
theorem setCell_size (w:World) (a:Addr) (v:Value):(w.setCell a v).heap.size=w.heap.size:=by simp [World.setCell]
theorem setCell_free (w:World) (g i j:Nat) (v:Value):(w.setCell ⟨g,i,none⟩ v).frozen? ⟨g,j,none⟩=w.frozen? ⟨g,j,none⟩:=by
 exact World.frozen?_setCell ..
theorem RowB.set {w:World} {g o:Nat} {xs:List Int} (h:RowB w g o xs) (k:Nat) (hk:k<xs.length) (y:Int):RowB (w.setCell ⟨g,o+k,none⟩ (.string (intB y))) g o (xs.set k y):=by
 refine ⟨by rw [setCell_size];exact h.lt,fun j x hx=>?_,fun j=>by rw [setCell_free];exact h.free j⟩
 rw [List.getElem?_set] at hx
 by_cases hj:k=j
 ·subst hj
  rw [if_pos rfl,if_pos hk] at hx
  cases hx
  exact World.cell?_setCell_same w _ _ (h.cell k xs[k] (List.getElem?_eq_getElem hk))
 ·rw [if_neg hj] at hx
  rw [World.cell?_setCell_other w _ _ _ (by intro e;simp only [Addr.mk.injEq] at e;omega)]
  exact h.cell j x hx
theorem RowB.other {w:World} {g o:Nat} {xs:List Int} (h:RowB w g o xs) (b i:Nat) (v:Value) (hb:g≠b):RowB (w.setCell ⟨b,i,none⟩ v) g o xs :=
 h.same (by rw [setCell_size];exact Nat.le_refl _) (setCell_heap_other w b i g v hb)
structure MatB (w:World) (g0:Nat) (tags:List (Nat×Nat×Nat)) (m:List (List Int)):Prop where
 len:tags.length=m.length
 lt:g0<w.heap.size
 free:∀ j,w.frozen? ⟨g0,j,none⟩=false
 row:∀ (i:Nat) t r,tags[i]?=some t→m[i]?=some r→w.cell? ⟨g0,i,none⟩=some (.slice (some ⟨t.1,t.2.1,none⟩) r.length t.2.2)∧r.length≤t.2.2∧t.2.2≤maxLen∧RowB w t.1 t.2.1 r
 nodup:(g0::tags.map (·.1)).Nodup
def blocksOf (g0:Nat) (tags:List (Nat×Nat×Nat)) (b:Nat):Prop:=b∈g0::tags.map (·.1)
theorem MatB.same {w w':World} {g0:Nat} {tags:List (Nat×Nat×Nat)} {m:List (List Int)} (h:MatB w g0 tags m) (hs:w.heap.size≤w'.heap.size) (hb:∀ b,blocksOf g0 tags b→w'.heap[b]?=w.heap[b]?):MatB w' g0 tags m:=by
 have h0:=hb g0 (List.mem_cons_self ..)
 refine ⟨h.len,Nat.lt_of_lt_of_le h.lt hs,fun j=>(free_of_heap h0 j).trans (h.free j),fun i t r ht hr=>?_,h.nodup⟩
 obtain ⟨h1,h2,h3,h4⟩:=h.row i t r ht hr
 exact ⟨(cell_of_heap h0 i).trans h1,h2,h3,h4.same hs (hb t.1 (List.mem_cons_of_mem _ (List.mem_map.2 ⟨t,List.mem_of_getElem? ht,rfl⟩)))⟩
theorem MatB.blt {w:World} {g0:Nat} {tags:List (Nat×Nat×Nat)} {m:List (List Int)} (h:MatB w g0 tags m) {b:Nat} (hb:blocksOf g0 tags b):b<w.heap.size:=by
 rcases List.mem_cons.1 hb with rfl | hb
 ·exact h.lt
 ·obtain ⟨t,ht,rfl⟩:=List.mem_map.1 hb
  obtain ⟨i,hi⟩:=List.getElem?_of_mem ht
  have hl:i<m.length:=by rw [← h.len];exact (List.getElem?_eq_some_iff.1 hi).1
  exact (h.row i t m[i] hi (List.getElem?_eq_getElem hl)).2.2.2.lt
theorem MatB.ext {w w':World} {g0:Nat} {tags:List (Nat×Nat×Nat)} {m:List (List Int)} (h:MatB w g0 tags m) (he:Ext w w'):MatB w' g0 tags m :=
 h.same he.size fun b hb=>he.block b (h.blt hb)
theorem MatB.get {w:World} {g0:Nat} {tags:List (Nat×Nat×Nat)} {m:List (List Int)} (h:MatB w g0 tags m) (i:Nat) (hi:i<m.length) :
  ∃ t,tags[i]?=some t∧w.cell? ⟨g0,i,none⟩=some (.slice (some ⟨t.1,t.2.1,none⟩) (rowE_ m i).length t.2.2)∧(rowE_ m i).length≤t.2.2∧t.2.2≤maxLen∧RowB w t.1 t.2.1 (rowE_ m i)∧t.1≠g0:=by
 have hl:i<tags.length:=by rw [h.len];exact hi
 have e:rowE_ m i=m[i]:=by unfold rowE_;rw [List.getD_eq_getElem?_getD,List.getElem?_eq_getElem hi];rfl
 have:=h.row i tags[i] m[i] (List.getElem?_eq_getElem hl) (List.getElem?_eq_getElem hi)
 refine ⟨tags[i],List.getElem?_eq_getElem hl,?_⟩
 rw [e]
 refine ⟨this.1,this.2.1,this.2.2.1,this.2.2.2,?_⟩
 have hn:=(List.nodup_cons.1 h.nodup).1
 intro e2
 exact hn (List.mem_map.2 ⟨tags[i],List.getElem_mem hl,e2⟩)
theorem MatB.apart {w:World} {g0:Nat} {tags:List (Nat×Nat×Nat)} {m:List (List Int)} (h:MatB w g0 tags m) {i j:Nat} {s t:Nat×Nat×Nat} (hs:tags[i]?=some s) (ht:tags[j]?=some t) (hij:i≠j):s.1≠t.1:=by
 have hn:=(List.nodup_cons.1 h.nodup).2
 intro e
 have h1:(tags.map (·.1))[i]?=some s.1:=by rw [List.getElem?_map,hs];rfl
 have h2:(tags.map (·.1))[j]?=some s.1:=by rw [List.getElem?_map,ht,e];rfl
 obtain ⟨l1,e1⟩:=List.getElem?_eq_some_iff.1 h1
 obtain ⟨l2,e2⟩:=List.getElem?_eq_some_iff.1 h2
 exact hij ((List.getElem_inj hn).1 (e1.trans e2.symm))
theorem MatB.setRow {w w':World} {g0:Nat} {tags:List (Nat×Nat×Nat)} {m:List (List Int)} (h:MatB w g0 tags m) (i:Nat) (hi:i<m.length) (t:Nat×Nat×Nat) (ht:tags[i]?=some t) (r:List Int) (hr:r.length=(rowE_ m i).length) (hg:GrownS (·=t.1) w w') (hR:RowB w' t.1 t.2.1 r):MatB w' g0 tags (m.set i r):=by
 obtain ⟨t',ht',-,-,-,-,hne⟩:=h.get i hi
 obtain rfl:t'=t:=Option.some.inj (ht'.symm.trans ht)
 have h0:=hg.block g0 h.lt (fun e=>hne e.symm)
 refine ⟨by rw [List.length_set];exact h.len,Nat.lt_of_lt_of_le h.lt hg.size,fun j=>(free_of_heap h0 j).trans (h.free j),fun j s q hs hq=>?_,h.nodup⟩
 rw [List.getElem?_set] at hq
 by_cases hj:i=j
 ·subst hj
  rw [if_pos rfl,if_pos hi] at hq
  cases hq
  obtain rfl:s=t':=Option.some.inj (hs.symm.trans ht)
  have e:rowE_ m i=m[i]:=by unfold rowE_;rw [List.getD_eq_getElem?_getD,List.getElem?_eq_getElem hi];rfl
  obtain ⟨h1,h2,h3,h4⟩:=h.row i s m[i] hs (List.getElem?_eq_getElem hi)
  rw [← e,← hr] at h1 h2
  exact ⟨(cell_of_heap h0 i).trans h1,h2,h3,hR⟩
 ·rw [if_neg hj] at hq
  obtain ⟨h1,h2,h3,h4⟩:=h.row j s q hs hq
  exact ⟨(cell_of_heap h0 j).trans h1,h2,h3,h4.grown hg (h.apart hs ht (fun e=>hj e.symm))⟩
end Go.Proofs.YtjlkkofmojgipaaGreatDoor
