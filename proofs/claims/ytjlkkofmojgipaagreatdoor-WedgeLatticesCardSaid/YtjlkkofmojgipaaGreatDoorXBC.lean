import Derived.WalkKit
import Derived.ProofKit
import Derived.OpenShut
import Derived.Test.YtjlkkofmojgipaaGreatDoorXBB
import Derived.ChangeSlices
import Derived.Deep.Slices
import Derived.Laws.IdiomArrays
set_option linter.unusedVariables false
set_option linter.unusedSimpArgs false
set_option maxRecDepth 1000000
namespace Go.Proofs.YtjlkkofmojgipaaGreatDoor
open Go.ChangeShapes Go.WideShapes Go.ChangeAt Go.RowKit Go.Proofs.Tryz
def kC (P:Program):Nat->TypeId->Nat->Option IntKind
 | 0,_,_=>none
 | fuel+1,t,j=>match P.underlying t with
  | some (.int k)=>if j=0 then some k else none
  | some (.struct fs)=>(fs.toList.find? fun f=>decide (f.offset<=j) && decide (j<f.offset+P.cellsOf f.type)).bind fun f=>kC P fuel f.type (j-f.offset)
  | some (.array n e)=>if j / P.cellsOf e<n then kC P fuel e (j%P.cellsOf e) else none
  | _=>none
theorem jR {H:Type} {enc:TypeId×Value->H} {P:Program} {w:World} {base:Nat} {spare:Nat->Bool} {held:Bool}:∀ (fuel:Nat) (t:TypeId) (j:Nat) (k:IntKind) (m:Nat) (cs:List Value) (x:DataW H×List MemPlace),
  kC P fuel t j=some k->DataW.trod enc P w base spare held m t cs=some x->∃ n,cs[j]?=some (.int k n)/\(Lit.int k n).wf=true
 | 0,_,_,_,_,_,_,h,_=>by simp [kC] at h
 | fuel+1,t,j,k,m,cs,x,h,hx=>by
  unfold kC at h
  split at h
  ·rename_i k' ht
   split at h
   ·rename_i hj;simp at h;subst h;subst hj;obtain ⟨n,rfl,_,hw⟩:=DataW.trod_int ht hx;exact ⟨n,rfl,hw⟩
   ·simp at h
  ·rename_i fs ht;obtain ⟨f,hf,hk⟩:=Option.bind_eq_some_iff.1 h;have hp:=List.find?_some hf;simp only [Bool.and_eq_true,decide_eq_true_eq] at hp;obtain ⟨i,hi⟩:=List.getElem?_of_mem (List.mem_of_find?_eq_some hf);obtain ⟨xs,n,rfl,_,_,hl,hall⟩:=DataW.trod_struct ht hx;have zR:fs[i]?=some f:=by simpa using hi
   have hr:=hall i f zR;have hlt:i<xs.length:=by rw [hl];exact (Array.getElem?_eq_some_iff.1 zR).1
   rw [n9 hlt] at hr;obtain ⟨n',hc,hw⟩:=jR fuel f.type (j-f.offset) k n _ _ hk hr;refine ⟨n',?_,hw⟩;rw [List.getElem?_take,if_pos (by omega),oT] at hc
   rwa [show f.offset+(j-f.offset)=j by omega] at hc
  ·rename_i n e ht
   split at h
   ·rename_i hj;obtain ⟨xs,q,rfl,_,_,hl,hall⟩:=DataW.trod_array ht hx;have hr:=hall (j / P.cellsOf e) hj;have hlt:j / P.cellsOf e<xs.length:=by omega
    rw [n9 hlt] at hr;obtain ⟨n',hc,hw⟩:=jR fuel e (j%P.cellsOf e) k q _ _ h hr;refine ⟨n',?_,hw⟩;have hlt2:j%P.cellsOf e<P.cellsOf e:=by
     by_cases h0:P.cellsOf e=0
     ·rw [h0] at hc;simp at hc
     ·exact Nat.mod_lt _ (by omega)
    rw [List.getElem?_take,if_pos hlt2,oT] at hc
    rwa [show j / P.cellsOf e*P.cellsOf e+j%P.cellsOf e=j by rw [Nat.mul_comm];exact Nat.div_add_mod _ _] at hc
   ·simp at h
  ·simp at h
theorem u4_:prog.cellsOf 49=8:=by kernel_rfl
theorem kO:(List.range 8).map (kC prog 5 49)=([IntKind.u8,.u8,.i8,.i8,.i8,.i8,.i8,.i8]:List IntKind).map some:=by kernel_rfl
theorem kP {T:TypeId} {m:Nat} {l:List IntKind} (h:(List.range m).map (kC prog 5 T)=l.map some) {j:Nat} (hj:j<m) {k:IntKind} (hk:l[j]?=some k):kC prog 5 T j=some k:=by
 have e:=congrArg (fun l=>l[j]?) h;simp only [oE,List.getElem?_range hj,hk,Option.map_some,Option.some.injEq] at e;exact e
theorem q6_ {H:Type} {enc:TypeId×Value->H} {W:World} {r:Reach} {b0 base:Nat} {spare:Nat->Bool} {held:Bool} {v:Value} {d:DataW H} {ps:List MemPlace}
  (sX:Value.okWide prog W r b0 49 v) (hd:DataW.Trod enc prog W base spare held 49 v d ps) :
  ∃ x y z0 z1 z2 z3 z4 z5:Int,v=.agg #[.int .u8 x,.int .u8 y,.int .i8 z0,.int .i8 z1,.int .i8 z2,.int .i8 z3,.int .i8 z4,.int .i8 z5]/\(0<=x/\x<=255)/\(0<=y/\y<=255)/\∀ a∈[z0,z1,z2,z3,z4,z5],-128<=a/\a<=127:=by
 obtain ⟨cs,rfl,hs⟩:=okWide_struct underlying49 sX;rw [u4_] at hs;obtain ⟨fuel,hf⟩:=hd;obtain ⟨a,b,c0,c1,c2,c3,c4,c5,rfl⟩:∃ a b c0 c1 c2 c3 c4 c5,cs=#[a,b,c0,c1,c2,c3,c4,c5]:=by
  match cs,hs with
  | ⟨[a,b,c0,c1,c2,c3,c4,c5]⟩,_=>exact ⟨a,b,c0,c1,c2,c3,c4,c5,rfl⟩
 obtain ⟨x,h0,w0⟩:=jR 5 _ 0 _ _ _ _ (kP kO (by decide) rfl) hf;obtain ⟨y,h1,w1⟩:=jR 5 _ 1 _ _ _ _ (kP kO (by decide) rfl) hf;obtain ⟨z0,h2,w2⟩:=jR 5 _ 2 _ _ _ _ (kP kO (by decide) rfl) hf;obtain ⟨z1,h3,w3⟩:=jR 5 _ 3 _ _ _ _ (kP kO (by decide) rfl) hf;obtain ⟨z2,h4,w4⟩:=jR 5 _ 4 _ _ _ _ (kP kO (by decide) rfl) hf;obtain ⟨z3,h5,w5⟩:=jR 5 _ 5 _ _ _ _ (kP kO (by decide) rfl) hf;obtain ⟨z4,h6,w6⟩:=jR 5 _ 6 _ _ _ _ (kP kO (by decide) rfl) hf;obtain ⟨z5,h7,w7⟩:=jR 5 _ 7 _ _ _ _ (kP kO (by decide) rfl) hf;obtain rfl:a=.int .u8 x:=oL (show some a=some _ from h0);obtain rfl:b=.int .u8 y:=oL (show some b=some _ from h1);obtain rfl:c0=.int .i8 z0:=oL (show some c0=some _ from h2);obtain rfl:c1=.int .i8 z1:=oL (show some c1=some _ from h3);obtain rfl:c2=.int .i8 z2:=oL (show some c2=some _ from h4);obtain rfl:c3=.int .i8 z3:=oL (show some c3=some _ from h5);obtain rfl:c4=.int .i8 z4:=oL (show some c4=some _ from h6);obtain rfl:c5=.int .i8 z5:=oL (show some c5=some _ from h7);refine ⟨x,y,z0,z1,z2,z3,z4,z5,rfl,bounds_u8 w0,bounds_u8 w1,fun e he=>?_⟩;have g2:=bounds_i8 w2;have g3:=bounds_i8 w3;have g4:=bounds_i8 w4;have g5:=bounds_i8 w5;have g6:=bounds_i8 w6;have g7:=bounds_i8 w7;simp only [List.mem_cons,List.not_mem_nil,or_false] at he;rcases he with rfl | rfl | rfl | rfl | rfl | rfl <;> assumption
end Go.Proofs.YtjlkkofmojgipaaGreatDoor
