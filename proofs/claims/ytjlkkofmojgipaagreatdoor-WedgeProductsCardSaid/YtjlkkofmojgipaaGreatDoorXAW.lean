import Derived.Test.YtjlkkofmojgipaaGreatDoorXAV
import Derived.Maps.OwnSet
import Derived.Test.YtjlkkofmojgipaaGreatDoorXAL
import Derived.Laws.CopyRow
import Derived.Laws.CopyOwn
import Derived.Test.YtjlkkofmojgipaaGreatDoorXAE
import Derived.Test.YtjlkkofmojgipaaGreatDoorXAA
import Derived.Test.YtjlkkofmojgipaaGreatDoorXAB
namespace Go.Proofs.YtjlkkofmojgipaaGreatDoor
set_option linter.unusedVariables false
set_option linter.unusedSimpArgs false
open Go.RowKit Go.Maps
theorem run_index_struct {P:Program} (w:World) (t e:TypeId) (n m:Nat) (cs:Array Value) (k:IntKind) (i:Int) (j:Nat) (inf:TypeInfo) (h:P.underlying t=some (.array n e)) (hag:∀ w,(isAgg e).run P w=.ok true w) (hinf:P.info? e=some inf) (hc:P.cellsOf e=m) (hi:i=j) (hn:j<n) :
  (Instr.index t (.agg cs) (.int k i)).run P w=.ok (.agg (cs.extract (j*m) (j*m+m))) w:=by
 subst hi
 have h1:(0:Int)≤(j:Int)∧(j:Int)<(n:Int):=by omega
 have hs:∀ w,(sizeOf e).run P w=.ok m w:=fun w=>by rw [run_sizeOf w hinf,hc]
 simp [Instr.index,run_underlying h,asIntOf,h1,hn,part,hs,hag,go_sem]
theorem infoMul : ∃ i, Tryz.prog.info? 31 = some i := by
  cases h : Tryz.prog.info? 31 with
  | some i => exact ⟨i, rfl⟩
  | none => exact absurd h (by have : (Tryz.prog.info? 31).isSome = true := by kernel_rfl
                               intro e; rw [e] at this; cases this)
theorem cellsMul:Tryz.prog.cellsOf 31=3:=by kernel_rfl
def PlacesIn2 (w:World) (b N n k:Nat) (L:List Nat):Prop:=∃ D:DataW Unit,w.ownsMap Tryz.prog 100 (plainElem Tryz.prog 3) b N D∧IsMap D∧(∀ s∈L,D.atKey (.int .u64 (s:Int)) (.lit (.int .i64 0))=.lit (.int .i64 (placeW n k s:Int)))∧Tidy D∧Maps.size D=L.length∧∀ x:Nat,has D (.int .u64 (x:Int))=true→x∈L
def PlacesM2 (w:World) (v:Value) (n k:Nat):Prop:=∃ b N,v=.map (some b)∧PlacesIn2 w b N n k (allW n k)
theorem PlacesM2.one {w:World} {v:Value} {n k:Nat} (h:PlacesM2 w v n k):PlacesM w v n k:=by
 obtain ⟨b,N,hv,D,h1,h2,h3,-⟩:=h
 exact ⟨b,N,hv,D,h1,h2,h3⟩
theorem PlacesIn2.ext {w w':World} {b N n k:Nat} {L:List Nat} (h:PlacesIn2 w b N n k L) (he:Ext w w'):PlacesIn2 w' b N n k L:=by
 obtain ⟨D,h1,h2⟩:=h
 exact ⟨D,h1.kept (he.grown none) (by simp),h2⟩
theorem PlacesM2.ext {w w':World} {v:Value} {n k:Nat} (h:PlacesM2 w v n k) (he:Ext w w'):PlacesM2 w' v n k:=by
 obtain ⟨b,N,hv,h1⟩:=h
 exact ⟨b,N,hv,h1.ext he⟩
theorem PlacesIn2.made (w:World) (n k:Nat):PlacesIn2 (w.alloc (.map #[] 0)) w.heap.size 0 n k []:=⟨.map [],World.ownsMap_made _ _ _ _,⟨_,rfl⟩,(fun s hs=>by cases hs),tidy_empty,rfl,fun x hx=>by cases hx⟩
set_option maxRecDepth 100000 in
set_option maxHeartbeats 1000000 in
theorem places2_any (n k:Nat) (hn:n<7) (hk:k≤n) (w:World):Calls Tryz.prog 59 #[.int .i64 n,.int .i64 k] w fun e w'=>∃ v,e=.returned v∧Ext w w'∧PlacesM2 w' v n k:=by
 have hmm:=@run_makeMap Tryz.prog
 obtain ⟨w1,hw1⟩:∃ w1,w1=w.alloc (.map #[] 0):=⟨_,rfl⟩
 have HM:=Lib.hid (PlacesIn2.made w n k)
 rw [← hw1] at HM
 have HE1:Hid (Ext w w1):=by rw [hw1];exact Ext.alloc _ _
 have hsz:w1.heap.size=w.heap.size+1:=by rw [hw1];exact World.size_alloc w _
 have HSZ:=Lib.hid hsz
 have HC:=Lib.hid (all_any n k (by omega) hk w1)
 have HLT:=Lib.hid (allW_lt (n:=n) (k:=k) (by omega) hk)
 have HLN:=Lib.hid (allW_len (n:=n) (k:=k) (by omega) hk)
 have HPL:Hid (∀ i s,(allW n k)[i]?=some s→placeW n k s=i):=fun i s h=>place_at hn hk h
 clear hsz
 obtain ⟨L,hL⟩:∃ L,allW n k=L:=⟨_,rfl⟩
 rw [hL] at HC HLT HLN HPL
 have HLL:=Lib.hid hL
 clear hL
 go_enter Tryz.func59,Tryz.ntmps59
 go_wp2_with fail
 generalize hw9:w.alloc _=w9
 obtain rfl:w9=w1:=by rw [← hw9,hw1]
 refine HC.out.mono ?_
 rintro e w2 ⟨v,rfl,h2,hU⟩
 obtain ⟨a,cap,rfl,hc1,hc2,hcx⟩:=hU.open
 unfold maxLen at hc2
 have HE2:Hid (Ext w w2):=HE1.out.trans h2
 have HM2:=Lib.hid (HM.out.ext h2)
 have HS2:Hid (w.heap.size<w2.heap.size):=by have:=h2.size;have:=HSZ.out;unfold Hid;omega
 have HCX:=Lib.hid hcx
 clear h2 hU hcx HC HM hw1 hw9
 obtain ⟨N,hN⟩:∃ N,L.length=N:=⟨_,rfl⟩
 have HNN:=Lib.hid hN
 rw [hN] at hc1 ⊢
 clear hN
 go_wp2_with fail
 go_loopw [13] (fun t wr=>∃ i:Nat,i≤N∧t=.int .i64 (i:Int)∧Hid (Ext w wr)∧Hid (w2.grownBy wr (some w.heap.size))∧Hid (PlacesIn2 wr w.heap.size i n k (L.take i))) (fun t _=>N+1-(intOf t).toNat)
 case atStart=>exact ⟨0,by omega,by simp,HE2.out,World.grownBy.refl _ _,HM2.out⟩
 case round =>
  obtain ⟨i,hi,rfl,HX,HG,HP⟩:=hrel
  by_cases hlt:i<N
  ·obtain ⟨s,hs⟩:∃ s,L[i]?=some s:=by
    rw [← HNN.out] at hlt
    exact ⟨_,List.getElem?_eq_getElem hlt⟩
   obtain ⟨b,off,rfl,hb,hcell⟩:=HCX.out (by intro e;rw [e] at hs;simp at hs)
   have hc:=hcell i s hs
   have hslt:s<4096:=HLT.out s (List.mem_of_getElem? hs)
   have hne:b≠w.heap.size:=by
    rintro rfl
    obtain ⟨D,⟨es,clock,hbk,-⟩,-⟩:=HM2.out
    rw [World.cell?,hbk] at hc
    simp at hc
   have hcx:wr.cell? ⟨b,off+i,none⟩=some (.int .u64 (s:Int)):=by
    rw [← hc];unfold World.cell?;rw [HG.out.block b hb (by intro e;cases e;exact hne rfl)]
   have HPI:Hid (placeW n k s=i):=HPL.out i s hs
   obtain ⟨D,hown,hmap,hat,htidy,hsize,hhas⟩:=HP.out
   have HNS:Hid (has D (.int .u64 (s:Int))=false):=by
    cases hz:has D (.int .u64 (s:Int)) with
    | false=>exact rfl
    | true =>
     exfalso
     obtain ⟨j,hj⟩:=List.mem_iff_getElem?.1 (hhas s hz)
     rw [List.getElem?_take] at hj
     by_cases hji:j<i
     ·rw [if_pos hji] at hj
      have:=HPL.out j s hj
      have:=HPL.out i s hs
      omega
     ·rw [if_neg hji] at hj;cases hj
   have HTD:=Lib.hid htidy;have HSI:=Lib.hid hsize;have HHA:=Lib.hid hhas
   have HLEN:Hid ((L.take (i+1)).length=(L.take i).length+1):=by
    show (L.take (i+1)).length=(L.take i).length+1
    rw [List.length_take,List.length_take,HNN.out];omega
   have HAT:=Lib.hid hat;have HMP:=Lib.hid hmap
   have HS:=Lib.hid hs;have HSL:=Lib.hid hslt
   clear hs hcell hc hne hat hmap HP hslt hb htidy hsize hhas
   go_wp2_with (first
    | (at_mapUpdate;refine wpList_mapUpdate_own _ rfl _ _ _ 96 rfl 100 3 lawU Tryz.underlying96 _ w.heap.size i _ rfl hown (by unfold maxLen;omega) _ _ _ rfl rfl (keyU HSL.out) _ [] (plainElem_int Tryz.underlying3 (WalkArith.wf_i64 (by omega))) ?_;intro w5 hown5 hgrow5)
    | fail)
   have HE5:Hid (Ext w w5):=Below.grown HX.out hgrow5 (Nat.le_of_lt (by have:=HG.out.size;have:=HS2.out;omega)) (fun j hj=>by cases hj;exact Nat.le_refl _)
   have HG5:Hid (w2.grownBy w5 (some w.heap.size)):=grown_trans HG.out hgrow5
   have HP5:Hid (PlacesIn2 w5 w.heap.size (i+1) n k (L.take (i+1))):=by
    refine ⟨_,hown5,isMap_put HMP.out _ _,fun x hx=>?_,HTD.out.put (by exact trivial) _,(by rw [size_put HTD.out,HNS.out,HLEN.out,HSI.out];rfl),fun x hx=>?_⟩
    ·by_cases hxs:x=s
     ·subst hxs
      rw [atKey_put_same HMP.out (by exact trivial),HPI.out]
     ·rw [atKey_put_other (fun e=>hxs (by injection e with _ e;exact Int.ofNat.inj e))]
      refine HAT.out x ?_
      rw [List.take_add_one,HS.out] at hx
      simpa [hxs] using hx
    ·by_cases hxs:x=s
     ·rw [hxs]
      exact List.mem_iff_getElem?.2 ⟨i,by rw [List.getElem?_take,if_pos (by omega)];exact HS.out⟩
     ·rw [has_put_other (fun e=>hxs (by injection e with _ e;exact Int.ofNat.inj e))] at hx
      have h7:=HHA.out x hx
      rw [List.take_add_one]
      exact List.mem_append_left _ h7
   clear hown5 hgrow5
   go_roundw
   case rel=>exact ⟨i+1,by omega,by go_num,HE5.out,HG5.out,HP5.out⟩
   case measure=>simp [intOf];omega
  ·obtain rfl:i=N:=by omega
   have HP9:Hid (PlacesIn2 wr w.heap.size i n k (allW n k)):=by
    have:=HP.out
    rw [← HNN.out,List.take_length,← HLL.out] at this
    rw [← HNN.out,← HLL.out];exact this
   clear HP
   go_wp2_with fail
   go_ret
   exact ⟨_,rfl,HX.out,_,_,rfl,HP9.out⟩
end Go.Proofs.YtjlkkofmojgipaaGreatDoor
namespace Go.Proofs.YtjlkkofmojgipaaGreatDoor
set_option linter.unusedVariables false
set_option linter.unusedSimpArgs false
open Go.RowKit
theorem run_copyK {P:Program} (w:World) (dT sT ty elem:TypeId) (g o dLen dCap:Nat) (a:Addr) (sLen sCap:Nat) (cur:Array Value) (t:TypeId) (cs:List Value) (sz:Nat)
  (hu:P.underlying dT=some (.slice elem)) (hs:(P.info? elem).map (·.size)=some sz)
  (hg:w.heap[g]?=some (.cells cur t (0,0))) (hn:cs.length=Nat.min sLen dLen*sz)
  (hsrc:∀ j v,cs[j]?=some v→w.cell? (a.add j)=some v) (hfit:o+cs.length≤cur.size) (h1:∀ v∈cs,v.oneCell'=true) :
  (Builtin.copy_ #[dT,sT] ty #[.slice (some ⟨g,o,none⟩) dLen dCap,.slice (some a) sLen sCap]).run P w =
   .ok (goInt (Nat.min sLen dLen)) (w.setRow g (cur.toList.take o++cs++cur.toList.drop (o+cs.length)).toArray):=by
 have hl:=run_loadCells_list (P:=P) w a cs hsrc
 have hst:=run_storeCells_at P g o t cs 0 cur w hg (by simpa using hfit) h1
 cases hq:P.info? elem with
 | none=>simp [hq] at hs
 | some i =>
  have hi:i.size=sz:=by simpa [hq] using hs
  simp [Builtin.copy_,run_underlying hu,Builtin.lenOf,Builtin.firstCells,sizeOf,typeInfo,hq,hi,← hn,hl,hst]
set_option maxRecDepth 100000 in
set_option maxHeartbeats 400000 in
theorem subI_any (x y:Int) (w:World) (hx:(intB x).size≤2800000000) (hy:(intB y).size≤2800000000) (ht:Pow10 w) :
  Calls Tryz.prog 185 #[.string (intB x),.string (intB y)] w fun e w'=>e=.returned (.string (intB (x-y)))∧Ext w w':=by
 have HN:=Lib.hid (neg_any y w (by omega))
 have hny:(intB (-y)).size≤2900000000:=by
  have h1:=intB_size_le (-y)
  have h2:=natAbs_le y
  rw [Int.natAbs_neg] at h1
  omega
 have HA:Hid (∀ W,Ext w W→Calls Tryz.prog 61 #[.string (intB x),.string (intB (-y))] W fun e w'=>e=.returned (.string (intB (x+-y)))∧Ext W w'):=fun W hE=>addI_any x (-y) W (by omega) hny (ht.ext hE)
 rw [show x+-y=x-y by omega] at HA
 clear ht hx hy hny
 go_enter Tryz.func185,Tryz.ntmps185
 go_wp2_with fail
 refine HN.out.mono ?_
 rintro e w0 ⟨rfl,hE0⟩
 have HE0:=Lib.hid hE0
 clear HN hE0
 go_wp2_with fail
 refine (HA.out _ HE0.out).mono ?_
 rintro e w1 ⟨rfl,hE1⟩
 have HE1:=Lib.hid (Ext.trans HE0.out hE1)
 clear hE1 HA
 go_wp2_with fail
 go_ret
 exact ⟨rfl,HE1.out⟩
def smB (n:Int):Bool:=decide ((numB n.natAbs).size≤1000000000)
def sm9B (n:Int):Bool:=decide ((numB n.natAbs).size≤400000000)
theorem smB_iff (n:Int):smB n=true↔(numB n.natAbs).size≤1000000000:=decide_eq_true_iff
theorem sm9B_iff (n:Int):sm9B n=true↔(numB n.natAbs).size≤400000000:=decide_eq_true_iff
def lessL (k:Int):List Int→List Int→List Int
 | r,[]=>r
 | [],_::_=>[]
 | a::r,b::s=>(a-k*b)::lessL k r s
theorem lessL_len (k:Int):∀ r s:List Int,(lessL k r s).length=r.length
 | [],[]=>rfl
 | a::r,[]=>rfl
 | [],_::_=>rfl
 | a::r,b::s=>by simp [lessL,lessL_len k r s]
theorem lessL_get (k:Int):∀ (r s:List Int) (j:Nat) (a b:Int),r[j]?=some a→s[j]?=some b→(lessL k r s)[j]?=some (a-k*b)
 | [],_,j,a,b,h,_=>by simp at h
 | _::_,[],j,a,b,_,h=>by simp at h
 | x::r,y::s,0,a,b,h,h'=>by simp at h h';subst h;subst h';rfl
 | x::r,y::s,j+1,a,b,h,h'=>by
  simp only [List.getElem?_cons_succ] at h h'
  exact lessL_get k r s j a b h h'
def lessO (k:Int) (r s:List Int):Option (List Int) :=
 if k=0 then some r
 else if s.length=r.length∧(sm9B k && s.all sm9B && r.all smB)=true then some (lessL k r s) else none
def rowE_ (m:List (List Int)) (i:Nat):List Int:=m.getD i []
def getE (m:List (List Int)) (i c:Nat):Int:=(rowE_ m i).getD c 0
def bestO (c d:Nat) (m:List (List Int)):Nat→Option Nat
 | 0=>none
 | k+1=>match bestO c d m k with
  | none=>if getE m (d+k) c=0 then none else some (d+k)
  | some a=>if getE m (d+k) c≠0∧(getE m (d+k) c).natAbs<(getE m a c).natAbs then some (d+k) else some a
def swapL {α:Type} (l:List α) (i j:Nat):List α:=match l[i]?,l[j]? with
 | some a,some b=>(l.set i b).set j a
 | _,_=>l
def downO (c d:Nat) (m:List (List Int)):Nat→Option (List (List Int)×Bool)
 | 0=>some (m,false)
 | j+1=>match downO c d m j with
  | none=>none
  | some (m',rest) =>
   if getE m' d c=0 then none
   else match lessO (fdq (getE m' (d+1+j) c) (getE m' d c)) (rowE_ m' (d+1+j)) (rowE_ m' d) with
    | none=>none
    | some r=>some (m'.set (d+1+j) r,rest || decide (fdr (getE m' (d+1+j) c) (getE m' d c)≠0))
def upO (c d:Nat) (m:List (List Int)):Nat→Option (List (List Int))
 | 0=>some m
 | j+1=>match upO c d m j with
  | none=>none
  | some m' =>
   if getE m' d c=0 then none
   else match lessO (fdq (getE m' j c) (getE m' d c)) (rowE_ m' j) (rowE_ m' d) with
    | none=>none
    | some r=>some (m'.set j r)
def okM (n:Nat) (m:List (List Int)):Bool:=m.all fun r=>decide (r.length=n) && r.all smB
def sweepO (n c d:Nat):Nat→List (List Int)→Option (List (List Int)×Bool)
 | 0,_=>none
 | f+1,m =>
  if okM n m then
   match bestO c d m (m.length-d) with
   | none=>some (m,false)
   | some a=>match downO c d (swapL m d a) (m.length-(d+1)) with
    | none=>none
    | some (m2,true)=>sweepO n c d f m2
    | some (m2,false) =>
     if okM n m2 then
      match upO c d (if getE m2 d c<0 then m2.set d ((rowE_ m2 d).map (- ·)) else m2) d with
      | none=>none
      | some m4=>some (m4,true)
     else none
  else none
def colsO (n F:Nat):Nat→Nat→Nat→List (List Int)→Option (List (List Int)×Nat)
 | 0,_,d,m=>some (m,d)
 | k+1,c,d,m =>
  if d<m.length then
   match sweepO n c d F m with
   | none=>none
   | some (m',p)=>colsO n F k (c+1) (if p then d+1 else d) m'
  else some (m,d)
structure RowB (w:World) (g o:Nat) (xs:List Int):Prop where
 lt:g<w.heap.size
 cell:∀ (j:Nat) x,xs[j]?=some x→w.cell? ⟨g,o+j,none⟩=some (.string (intB x))
 free:∀ j,w.frozen? ⟨g,j,none⟩=false
theorem cell_of_heap {w w':World} {g:Nat} (h:w'.heap[g]?=w.heap[g]?) (j:Nat):w'.cell? ⟨g,j,none⟩=w.cell? ⟨g,j,none⟩:=by
 simp [World.cell?,h]
theorem free_of_heap {w w':World} {g:Nat} (h:w'.heap[g]?=w.heap[g]?) (j:Nat):w'.frozen? ⟨g,j,none⟩=w.frozen? ⟨g,j,none⟩:=by
 simp [World.frozen?,h]
theorem RowB.same {w w':World} {g o:Nat} {xs:List Int} (h:RowB w g o xs) (hs:w.heap.size≤w'.heap.size) (hg:w'.heap[g]?=w.heap[g]?):RowB w' g o xs :=
 ⟨Nat.lt_of_lt_of_le h.lt hs,fun j x hx=>(cell_of_heap hg _).trans (h.cell j x hx),fun j=>(free_of_heap hg j).trans (h.free j)⟩
theorem RowB.ext {w w':World} {g o:Nat} {xs:List Int} (h:RowB w g o xs) (he:Ext w w'):RowB w' g o xs:=h.same he.size (he.block g h.lt)
theorem RowB.grown {w w':World} {S:Nat→Prop} {g o:Nat} {xs:List Int} (h:RowB w g o xs) (hg:GrownS S w w') (hS:¬ S g):RowB w' g o xs:=h.same hg.size (hg.block g h.lt hS)
theorem setCell_heap_other (w:World) (g i b:Nat) (v:Value) (h:b≠g):(w.setCell ⟨g,i,none⟩ v).heap[b]?=w.heap[b]?:=by
 by_cases hb:b<w.heap.size
 ·exact (grown_setCell w g i v).block b hb (fun e=>h (by cases e;rfl))
 ·have:(w.setCell ⟨g,i,none⟩ v).heap.size=w.heap.size:=by simp [World.setCell]
  rw [Array.getElem?_eq_none (by omega),Array.getElem?_eq_none (by omega)]
theorem setCell_size (w:World) (a:Addr) (v:Value):(w.setCell a v).heap.size=w.heap.size:=by simp [World.setCell]
theorem setCell_free (w:World) (g i j:Nat) (v:Value):(w.setCell ⟨g,i,none⟩ v).frozen? ⟨g,j,none⟩=w.frozen? ⟨g,j,none⟩:=by
 exact World.frozen?_setCell ..
theorem RowB.set {w:World} {g o:Nat} {xs:List Int} (h:RowB w g o xs) (k:Nat) (hk:k<xs.length) (y:Int):RowB (w.setCell ⟨g,o+k,none⟩ (.string (intB y))) g o (xs.set k y):=by
 refine ⟨by rw [setCell_size];exact h.lt,fun j x hx=>?_,fun j=>by rw [setCell_free];exact h.free j⟩
 rw [List.getElem?_set] at hx
 by_cases hj:k=j
 ·subst hj
  rw [if_pos rfl,if_pos hk] at hx
  cases hx
  exact World.cell?_setCell_same w _ _ (h.cell k xs[k] (List.getElem?_eq_getElem hk))
 ·rw [if_neg hj] at hx
  rw [World.cell?_setCell_other w _ _ _ (by intro e;simp only [Addr.mk.injEq] at e;omega)]
  exact h.cell j x hx
theorem RowB.other {w:World} {g o:Nat} {xs:List Int} (h:RowB w g o xs) (b i:Nat) (v:Value) (hb:g≠b):RowB (w.setCell ⟨b,i,none⟩ v) g o xs :=
 h.same (by rw [setCell_size];exact Nat.le_refl _) (setCell_heap_other w b i g v hb)
structure MatB (w:World) (g0:Nat) (tags:List (Nat×Nat×Nat)) (m:List (List Int)):Prop where
 len:tags.length=m.length
 lt:g0<w.heap.size
 free:∀ j,w.frozen? ⟨g0,j,none⟩=false
 row:∀ (i:Nat) t r,tags[i]?=some t→m[i]?=some r→w.cell? ⟨g0,i,none⟩=some (.slice (some ⟨t.1,t.2.1,none⟩) r.length t.2.2)∧r.length≤t.2.2∧t.2.2≤maxLen∧RowB w t.1 t.2.1 r
 nodup:(g0::tags.map (·.1)).Nodup
def blocksOf (g0:Nat) (tags:List (Nat×Nat×Nat)) (b:Nat):Prop:=b∈g0::tags.map (·.1)
theorem MatB.same {w w':World} {g0:Nat} {tags:List (Nat×Nat×Nat)} {m:List (List Int)} (h:MatB w g0 tags m) (hs:w.heap.size≤w'.heap.size) (hb:∀ b,blocksOf g0 tags b→w'.heap[b]?=w.heap[b]?):MatB w' g0 tags m:=by
 have h0:=hb g0 (List.mem_cons_self ..)
 refine ⟨h.len,Nat.lt_of_lt_of_le h.lt hs,fun j=>(free_of_heap h0 j).trans (h.free j),fun i t r ht hr=>?_,h.nodup⟩
 obtain ⟨h1,h2,h3,h4⟩:=h.row i t r ht hr
 exact ⟨(cell_of_heap h0 i).trans h1,h2,h3,h4.same hs (hb t.1 (List.mem_cons_of_mem _ (List.mem_map.2 ⟨t,List.mem_of_getElem? ht,rfl⟩)))⟩
theorem MatB.blt {w:World} {g0:Nat} {tags:List (Nat×Nat×Nat)} {m:List (List Int)} (h:MatB w g0 tags m) {b:Nat} (hb:blocksOf g0 tags b):b<w.heap.size:=by
 rcases List.mem_cons.1 hb with rfl | hb
 ·exact h.lt
 ·obtain ⟨t,ht,rfl⟩:=List.mem_map.1 hb
  obtain ⟨i,hi⟩:=List.getElem?_of_mem ht
  have hl:i<m.length:=by rw [← h.len];exact (List.getElem?_eq_some_iff.1 hi).1
  exact (h.row i t m[i] hi (List.getElem?_eq_getElem hl)).2.2.2.lt
theorem MatB.ext {w w':World} {g0:Nat} {tags:List (Nat×Nat×Nat)} {m:List (List Int)} (h:MatB w g0 tags m) (he:Ext w w'):MatB w' g0 tags m :=
 h.same he.size fun b hb=>he.block b (h.blt hb)
theorem MatB.get {w:World} {g0:Nat} {tags:List (Nat×Nat×Nat)} {m:List (List Int)} (h:MatB w g0 tags m) (i:Nat) (hi:i<m.length) :
  ∃ t,tags[i]?=some t∧w.cell? ⟨g0,i,none⟩=some (.slice (some ⟨t.1,t.2.1,none⟩) (rowE_ m i).length t.2.2)∧(rowE_ m i).length≤t.2.2∧t.2.2≤maxLen∧RowB w t.1 t.2.1 (rowE_ m i)∧t.1≠g0:=by
 have hl:i<tags.length:=by rw [h.len];exact hi
 have e:rowE_ m i=m[i]:=by unfold rowE_;rw [List.getD_eq_getElem?_getD,List.getElem?_eq_getElem hi];rfl
 have:=h.row i tags[i] m[i] (List.getElem?_eq_getElem hl) (List.getElem?_eq_getElem hi)
 refine ⟨tags[i],List.getElem?_eq_getElem hl,?_⟩
 rw [e]
 refine ⟨this.1,this.2.1,this.2.2.1,this.2.2.2,?_⟩
 have hn:=(List.nodup_cons.1 h.nodup).1
 intro e2
 exact hn (List.mem_map.2 ⟨tags[i],List.getElem_mem hl,e2⟩)
theorem MatB.apart {w:World} {g0:Nat} {tags:List (Nat×Nat×Nat)} {m:List (List Int)} (h:MatB w g0 tags m) {i j:Nat} {s t:Nat×Nat×Nat} (hs:tags[i]?=some s) (ht:tags[j]?=some t) (hij:i≠j):s.1≠t.1:=by
 have hn:=(List.nodup_cons.1 h.nodup).2
 intro e
 have h1:(tags.map (·.1))[i]?=some s.1:=by rw [List.getElem?_map,hs];rfl
 have h2:(tags.map (·.1))[j]?=some s.1:=by rw [List.getElem?_map,ht,e];rfl
 obtain ⟨l1,e1⟩:=List.getElem?_eq_some_iff.1 h1
 obtain ⟨l2,e2⟩:=List.getElem?_eq_some_iff.1 h2
 exact hij ((List.getElem_inj hn).1 (e1.trans e2.symm))
theorem MatB.setRow {w w':World} {g0:Nat} {tags:List (Nat×Nat×Nat)} {m:List (List Int)} (h:MatB w g0 tags m) (i:Nat) (hi:i<m.length) (t:Nat×Nat×Nat) (ht:tags[i]?=some t) (r:List Int) (hr:r.length=(rowE_ m i).length) (hg:GrownS (·=t.1) w w') (hR:RowB w' t.1 t.2.1 r):MatB w' g0 tags (m.set i r):=by
 obtain ⟨t',ht',-,-,-,-,hne⟩:=h.get i hi
 obtain rfl:t'=t:=Option.some.inj (ht'.symm.trans ht)
 have h0:=hg.block g0 h.lt (fun e=>hne e.symm)
 refine ⟨by rw [List.length_set];exact h.len,Nat.lt_of_lt_of_le h.lt hg.size,fun j=>(free_of_heap h0 j).trans (h.free j),fun j s q hs hq=>?_,h.nodup⟩
 rw [List.getElem?_set] at hq
 by_cases hj:i=j
 ·subst hj
  rw [if_pos rfl,if_pos hi] at hq
  cases hq
  obtain rfl:s=t':=Option.some.inj (hs.symm.trans ht)
  have e:rowE_ m i=m[i]:=by unfold rowE_;rw [List.getD_eq_getElem?_getD,List.getElem?_eq_getElem hi];rfl
  obtain ⟨h1,h2,h3,h4⟩:=h.row i s m[i] hs (List.getElem?_eq_getElem hi)
  rw [← e,← hr] at h1 h2
  exact ⟨(cell_of_heap h0 i).trans h1,h2,h3,hR⟩
 ·rw [if_neg hj] at hq
  obtain ⟨h1,h2,h3,h4⟩:=h.row j s q hs hq
  exact ⟨(cell_of_heap h0 j).trans h1,h2,h3,h4.grown hg (h.apart hs ht (fun e=>hj e.symm))⟩
end Go.Proofs.YtjlkkofmojgipaaGreatDoor
