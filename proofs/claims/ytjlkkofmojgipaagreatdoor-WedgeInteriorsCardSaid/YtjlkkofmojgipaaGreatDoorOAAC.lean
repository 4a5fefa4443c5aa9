import Derived.Test.YtjlkkofmojgipaaGreatDoorOAAB
import Derived.Test.YtjlkkofmojgipaaGreatDoorPAF
namespace Go.Proofs.YtjlkkofmojgipaaGreatDoor
set_option linter.unusedVariables false
set_option linter.unusedSimpArgs false
open Go.RowKit
theorem wpList_append_manyI {ops:Array Oper} {rest:List Oper} {o:Oper} {a:Act} {Q:Exit→Act→World→Prop} (hgd:o.guard=none) (w:World) (s x:Operand) (T2:TypeId) (ht2:Tryz.prog.underlying T2=some (TypeDesc.slice 3)) (ho:o.op=.call { callee:=.builtin .append,args:=#[s,x],argTypes:=#[T2,T2] }) (B:Nat)
  (v:Value) (l ys:List Int) (u:Value) (hs:a.eval s=v) (hB:OwnR B w v l) (hx:a.eval x=u) (hu:Ints w u ys) (hlen:l.length+ys.length<1000000) (hbase:B≤w.heap.size)
  (h:∀ v' w',OwnR B w' v' (l++ys)→Below B w w'→wpList Tryz.prog ops Q rest (a.put o.dst v') w'):wpList Tryz.prog ops Q (o::rest) a w :=
 wpList_plain hgd fun K' hk=>by
  have h9:=step_append_manyI (ops:=#[]) (Q:=Q) (K:=K') (E:=False) hgd w s x T2 ht2 ho B v l ys u hs hB hx hu hlen hbase fun v' w' a1 a2=>hk _ _ (h v' w' a1 a2)
  rw [if_pos (by unfold Region.wanted;rw [hgd])] at h9
  exact h9
def NoT (w w':World):Prop:=w.heap.size≤w'.heap.size∧∀ a v,w.cell? a=some v→v≠.slice none 0 0→w'.cell? a=some v
theorem NoT.refl (w:World):NoT w w:=⟨Nat.le_refl _,fun _ _ h _=>h⟩
theorem NoT.ext {w w' w'':World} (h:NoT w w') (he:Ext w' w''):NoT w w'':=⟨Nat.le_trans h.1 he.size,fun a v hv hs=>he.cell (h.2 a v hv hs)⟩
theorem NoT.set {w w':World} {p:Addr} {v:Value} (h:NoT w w') (hp:w.cell? p=some (.slice none 0 0)):NoT w (w'.setCell p v):=by
 refine ⟨by rw [setCell_sizeQ];exact h.1,fun a u hu hs=>?_⟩
 have hne:p≠a:=by
  rintro rfl
  rw [hp] at hu
  exact hs (Option.some.inj hu).symm
 rw [World.cell?_setCell_other w' _ _ _ hne]
 exact h.2 a u hu hs
end Go.Proofs.YtjlkkofmojgipaaGreatDoor
namespace Go.Proofs.YtjlkkofmojgipaaGreatDoor
set_option linter.unusedVariables false
set_option linter.unusedSimpArgs false
def inOut (n k d:Nat) (X r:List Int) (i:Nat):List Int:=((allW n d).take i).map (fun s=>intTo n k X r s n)++List.replicate ((allW n d).length-i) 0
theorem inOut_zero (n k d:Nat) (X r:List Int):inOut n k d X r 0=List.replicate (allW n d).length 0:=by simp [inOut]
theorem inOut_len {n k d:Nat} {X r:List Int} {i:Nat} (hi:i≤(allW n d).length):(inOut n k d X r i).length=(allW n d).length:=by
 unfold inOut
 rw [List.length_append,List.length_map,List.length_take,List.length_replicate];omega
theorem inOut_set {n k d:Nat} {X r:List Int} {i s:Nat} (hs:(allW n d)[i]?=some s) (v:Int):(inOut n k d X r i).set i v=((allW n d).take i).map (fun s=>intTo n k X r s n)++v::List.replicate ((allW n d).length-(i+1)) 0:=by
 have hi:i<(allW n d).length:=(List.getElem?_eq_some_iff.1 hs).1
 unfold inOut
 have hl:(((allW n d).take i).map (fun s=>intTo n k X r s n)).length=i:=by rw [List.length_map,List.length_take];omega
 rw [List.set_append_right _ _ (by omega),hl,Nat.sub_self,show (allW n d).length-i=((allW n d).length-(i+1))+1 by omega,List.replicate_succ,List.set_cons_zero]
theorem inOut_set0 {n k d:Nat} {X r:List Int} {i s:Nat} (hs:(allW n d)[i]?=some s):(inOut n k d X r i).set i (intTo n k X r s 0)=inOut n k d X r i:=by
 have hi:i<(allW n d).length:=(List.getElem?_eq_some_iff.1 hs).1
 rw [inOut_set hs,intTo]
 unfold inOut
 rw [show (allW n d).length-i=((allW n d).length-(i+1))+1 by omega,List.replicate_succ]
theorem inOut_next {n k d:Nat} {X r:List Int} {i s:Nat} (hs:(allW n d)[i]?=some s):(inOut n k d X r i).set i (intTo n k X r s n)=inOut n k d X r (i+1):=by
 rw [inOut_set hs]
 unfold inOut
 rw [List.take_add_one,hs,List.map_append,List.append_assoc];rfl
theorem inOut_done (n k d:Nat) (X r:List Int):inOut n k d X r (allW n d).length=(allW n d).map (fun s=>intTo n k X r s n):=by
 unfold inOut
 rw [List.take_length,Nat.sub_self];simp
theorem inOut_at {n k d:Nat} {X r:List Int} {i s:Nat} (hs:(allW n d)[i]?=some s) (v:Int):((inOut n k d X r i).set i v)[i]?=some v:=by
 have hi:i<(allW n d).length:=(List.getElem?_eq_some_iff.1 hs).1
 rw [List.getElem?_set_self (by rw [inOut_len (by omega)];exact hi)]
theorem in_pair {n k d s i:Nat} (hn:n<6) (hd:d+1=k) (hk:k≤n) (hs:s∈allW n d) (hi:i<n) :
  (s.testBit i=false∧mergedL [i] (membL s)=some (membL (s ||| (1 <<< i)))∧(s ||| (1 <<< i))∈allW n k∧oddW (1 <<< i) s=oddL ([i]++membL s))∨(s.testBit i=true∧mergedL [i] (membL s)=none):=by
 obtain ⟨u1,u2⟩:=unit_all n (by omega) i hi
 have hb:=bit_all n (by omega) d (by omega) s hs i hi
 rcases pair_get (n:=n) (a:=1) (b:=d) hn (by omega) (by omega) u1 hs with ⟨h1,h2,h3,h4⟩ | ⟨h1,h2⟩
 ·refine .inl ⟨?_,?_,?_,?_⟩
  ·cases h:s.testBit i
   ·rfl
   ·exact absurd h1 (hb.1 h)
  ·rw [u2,or_comm'] at h2;exact h2
  ·rw [or_comm',show 1+d=k by omega] at h3;exact h3
  ·rw [u2] at h4;exact h4
 ·exact .inr ⟨hb.2 h1,by rw [u2] at h2;exact h2⟩
theorem intTo_hit {n k:Nat} {X r:List Int} {s i:Nat} (h:s.testBit i=true):intTo n k X r s (i+1)=intTo n k X r s i:=by rw [intTo,if_pos h]
theorem intTo_miss {n k:Nat} {X r:List Int} {s i:Nat} {x y:Int} (h:s.testBit i=false) (hx:r[i]?=some x) (hy:X[placeW n k (s ||| (1 <<< i))]?=some y):intTo n k X r s (i+1)=intTo n k X r s i+sgnI (x*y) (oddW (1 <<< i) s):=by
 rw [intTo,if_neg (by rw [h];decide),List.getD_eq_getElem?_getD,List.getD_eq_getElem?_getD,hx,hy];rfl
end Go.Proofs.YtjlkkofmojgipaaGreatDoor
