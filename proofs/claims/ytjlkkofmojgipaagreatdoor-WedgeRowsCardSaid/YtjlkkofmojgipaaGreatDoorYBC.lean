import Derived.Test.YtjlkkofmojgipaaGreatDoorYAY
namespace Go.Proofs.YtjlkkofmojgipaaGreatDoor
set_option linter.unusedVariables false
set_option linter.unusedSimpArgs false
open Go.RowKit
def negL (r:List Int):List Int:=r.map (- ·)
def negP (r:List Int) (j:Nat):List Int:=(negL r).take j++r.drop j
theorem negP_len (r:List Int) (j:Nat):(negP r j).length=r.length:=by
 unfold negP negL;rw [List.length_append,List.length_take,List.length_drop,List.length_map];omega
theorem negP_get (r:List Int) (j:Nat) (a:Int) (h:r[j]?=some a):(negP r j)[j]?=some a:=by
 unfold negP negL
 have hj:=(List.getElem?_eq_some_iff.1 h).1
 rw [List.getElem?_append_right (by rw [List.length_take];omega),List.length_take,List.length_map,List.getElem?_drop]
 rw [show j+(j-min j r.length)=j by omega];exact h
theorem negP_set (r:List Int) (j:Nat) (a:Int) (h:r[j]?=some a):(negP r j).set j (-a)=negP r (j+1):=by
 have hj:=(List.getElem?_eq_some_iff.1 h).1
 unfold negP negL
 rw [List.take_add_one,List.getElem?_map,h]
 have hd:r.drop j=a::r.drop (j+1):=by
  rw [List.drop_eq_getElem_cons hj]
  congr 1
  exact (List.getElem?_eq_some_iff.1 h).2
 rw [hd,List.set_append_right _ _ (by rw [List.length_take];omega),List.length_take,List.length_map,show j-min j r.length=0 by omega]
 simp
theorem negP_zero (r:List Int):negP r 0=r:=by unfold negP;simp
theorem negP_all (r:List Int) (j:Nat) (h:r.length≤j):negP r j=negL r:=by
 unfold negP negL;rw [List.take_of_length_le (by rw [List.length_map];exact h),List.drop_eq_nil_of_le h,List.append_nil]
end Go.Proofs.YtjlkkofmojgipaaGreatDoor
