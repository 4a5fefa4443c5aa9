import Derived.WalkKit
import Derived.Deep.QuietTactic
import Derived.BigQuiet
import Derived.Deep.LoopGhost
import Derived.Outline
import Derived.Lib.Hide
import Derived.Deep.DeepFit
import Derived.Deep.DeepMust
import Derived.Shelf.Abstract
import Derived.Test.YtjlkkofmojgipaaGreatDoorRows
import Derived.Maps.AppendAt
namespace Go.Proofs.YtjlkkofmojgipaaGreatDoor
set_option linter.unusedVariables false
set_option linter.unusedSimpArgs false
open Go.RowKit
abbrev Ext (w w':World):Prop:=Below w.heap.size w w'
theorem Ext.refl (w:World):Ext w w:=Below.refl _ _
theorem Ext.trans {a b c:World} (h:Ext a b) (k:Ext b c):Ext a c:=Below.trans h (Below.mono k h.size)
theorem Ext.alloc (w:World) (o:Obj):Ext w (w.alloc o):=Below.alloc (Below.refl _ _) (Nat.le_refl _) o
theorem Ext.drew (w:World):Ext w w.drew:=Below.drew (Below.refl _ _)
theorem Ext.drewN (w:World) (n:Nat):Ext w (w.drewN n):=⟨rfl,rfl,rfl,Nat.le_refl _,fun _ _=>rfl⟩
theorem Ext.draws {w w':World} (h:Ext w w') (n:Nat):Ext w (w'.drewN n):=h.trans (Ext.drewN w' n)
theorem lt_of_cell {w:World} {a:Addr} {v:Value} (h:w.cell? a=some v):a.block<w.heap.size:=World.block_lt_of_cell? w a h
theorem Ext.cell {w w':World} (h:Ext w w') {a:Addr} {v:Value} (hc:w.cell? a=some v):w'.cell? a=some v:=(Below.cell h (lt_of_cell hc)).trans hc
def SeqAt (w:World) (v:Value) (n:Nat) (cs:List Value):Prop :=
 ∃ (a:Option Addr) (cap:Nat),v=.slice a n cap∧n≤cap∧cap≤maxLen∧(a=none→cap=0) ∧
  (cs≠[]→∃ b off,a=some ⟨b,off,none⟩∧b<w.heap.size∧∀ (j:Nat) u,cs[j]?=some u→w.cell? ⟨b,off+j,none⟩=some u)
theorem SeqAt.ext {w w':World} {v:Value} {n:Nat} {cs:List Value} (h:SeqAt w v n cs) (he:Ext w w'):SeqAt w' v n cs:=by
 obtain ⟨a,cap,rfl,h1,h2,h3,h4⟩:=h
 refine ⟨a,cap,rfl,h1,h2,h3,fun hn=>?_⟩
 obtain ⟨b,off,ha,hb,hc⟩:=h4 hn
 exact ⟨b,off,ha,Nat.lt_of_lt_of_le hb he.size,fun j u hu=>he.cell (hc j u hu)⟩
def ListAt {α:Type} (k:Nat) (R:World→List Value→α→Prop) (w:World) (v:Value) (xs:List α):Prop :=
 ∃ us:List (List Value),us.length=xs.length∧(∀ u∈us,u.length=k)∧SeqAt w v xs.length us.flatten ∧
  ∀ (j:Nat) u x,us[j]?=some u→xs[j]?=some x→R w u x
def Mono {α:Type} (R:World→List Value→α→Prop):Prop:=∀ w w' u x,Ext w w'→R w u x→R w' u x
theorem ListAt.ext {α:Type} {k:Nat} {R:World→List Value→α→Prop} (hR:Mono R) {w w':World} {v:Value} {xs:List α} (h:ListAt k R w v xs) (he:Ext w w'):ListAt k R w' v xs:=by
 obtain ⟨us,h1,h2,h3,h4⟩:=h
 exact ⟨us,h1,h2,h3.ext he,fun j u x hu hx=>hR _ _ _ _ he (h4 j u x hu hx)⟩
theorem flatten_get {k:Nat}:∀ (us:List (List Value)) (j i:Nat) (u:List Value),(∀ u∈us,u.length=k)→us[j]?=some u→i<k→us.flatten[j*k+i]?=u[i]?
 | [],j,i,u,_,h,_=>by simp at h
 | x::us,j,i,u,hk,h,hi=>by
  have hx:x.length=k:=hk x (by simp)
  cases j with
  | zero =>
   simp at h;subst h
   rw [List.flatten_cons,List.getElem?_append_left (by omega)]
   congr 1;omega
  | succ j =>
   simp at h
   rw [List.flatten_cons,List.getElem?_append_right (by rw [hx,Nat.succ_mul];omega)]
   rw [show (j+1)*k+i-x.length=j*k+i by rw [hx,Nat.succ_mul];omega]
   exact flatten_get us j i u (fun u hu=>hk u (by simp [hu])) h hi
theorem ListAt.open {α:Type} {k:Nat} {R:World→List Value→α→Prop} {w:World} {v:Value} {xs:List α} (h:ListAt k R w v xs) :
  ∃ (a:Option Addr) (cap:Nat),v=.slice a xs.length cap∧xs.length≤cap∧cap≤maxLen∧(a=none→cap=0) ∧
   (0<k→xs≠[]→∃ b off,a=some ⟨b,off,none⟩∧b<w.heap.size ∧
    ∀ (j:Nat) x,xs[j]?=some x→∃ u:List Value,u.length=k∧R w u x∧∀ i,i<k→w.cell? ⟨b,off+(j*k+i),none⟩=u[i]?):=by
 obtain ⟨us,h1,h2,⟨a,cap,rfl,h3,h4,h5,h6⟩,h7⟩:=h
 refine ⟨a,cap,rfl,h3,h4,h5,fun hk hx=>?_⟩
 have hne:us.flatten≠[]:=by
  cases us with
  | nil=>cases xs with
   | nil=>exact absurd rfl hx
   | cons=>simp at h1
  | cons u us =>
   have:=h2 u (by simp)
   cases u with
   | nil=>simp at this;omega
   | cons=>simp
 obtain ⟨b,off,ha,hb,hc⟩:=h6 hne
 refine ⟨b,off,ha,hb,fun j x hj=>?_⟩
 have hlt:j<us.length:=by rw [h1];exact (List.getElem?_eq_some_iff.1 hj).1
 refine ⟨us[j],h2 _ (List.getElem_mem _),h7 j _ x (by simp [hlt]) hj,fun i hi=>?_⟩
 have hl:=h2 us[j] (List.getElem_mem _)
 have hg:=flatten_get us j i us[j] h2 (by simp [hlt]) hi
 have hs:(us[j])[i]?=some (us[j])[i]:=by simp [hl,hi]
 rw [hs]
 exact hc _ _ (hg.trans hs)
def intR (_:World) (u:List Value) (x:Int):Prop:=u=[.int .i64 x]∧-9223372036854775808≤x∧x≤9223372036854775807
theorem intR.mono:Mono intR:=fun _ _ _ _ _ h=>h
abbrev Ints (w:World) (v:Value) (xs:List Int):Prop:=ListAt 1 intR w v xs
def inCell {α:Type} (R:World→Value→α→Prop) (w:World) (u:List Value) (x:α):Prop:=∃ v,u=[v]∧R w v x
theorem inCell.mono {α:Type} {R:World→Value→α→Prop} (h:∀ w w' v x,Ext w w'→R w v x→R w' v x):Mono (inCell R) :=
 fun w w' _ x he ⟨v,hu,hv⟩=>⟨v,hu,h w w' v x he hv⟩
abbrev rowR:World→List Value→List Int→Prop:=inCell Ints
theorem rowR.mono:Mono rowR:=inCell.mono fun _ _ _ _ he h=>ListAt.ext intR.mono h he
abbrev Rows2 (w:World) (v:Value) (xs:List (List Int)):Prop:=ListAt 1 rowR w v xs
theorem Ints.ext {w w':World} {v:Value} {xs:List Int} (h:Ints w v xs) (he:Ext w w'):Ints w' v xs:=ListAt.ext intR.mono h he
theorem Rows2.ext {w w':World} {v:Value} {xs:List (List Int)} (h:Rows2 w v xs) (he:Ext w w'):Rows2 w' v xs:=ListAt.ext rowR.mono h he
theorem Ints.open {w:World} {v:Value} {xs:List Int} (h:Ints w v xs) :
  ∃ (a:Option Addr) (cap:Nat),v=.slice a xs.length cap∧xs.length≤cap∧cap≤maxLen∧(a=none→cap=0)∧(∀ x∈xs,-9223372036854775808≤x∧x≤9223372036854775807) ∧
   (xs≠[]→∃ b off,a=some ⟨b,off,none⟩∧b<w.heap.size∧∀ (j:Nat) x,xs[j]?=some x→w.cell? ⟨b,off+j,none⟩=some (.int .i64 x)):=by
 have hall:∀ x∈xs,-9223372036854775808≤x∧x≤9223372036854775807:=by
  obtain ⟨us,h1,_,_,h7⟩:=h
  intro x hx
  obtain ⟨j,hj⟩:=List.getElem?_of_mem hx
  have hlt:j<us.length:=by rw [h1];exact (List.getElem?_eq_some_iff.1 hj).1
  exact (h7 j us[j] x (by simp [hlt]) hj).2
 obtain ⟨a,cap,hv,h1,h2,h3,h4⟩:=ListAt.open h
 refine ⟨a,cap,hv,h1,h2,h3,hall,fun hx=>?_⟩
 obtain ⟨b,off,ha,hb,hc⟩:=h4 (by omega) hx
 refine ⟨b,off,ha,hb,fun j x hj=>?_⟩
 obtain ⟨u,_,hr,hcell⟩:=hc j x hj
 have:=hcell 0 (by omega)
 rw [hr.1] at this
 simpa using this
theorem Ints.cells {w:World} {a:Option Addr} {n cap:Nat} {xs:List Int} (h:Ints w (.slice a n cap) xs) :
  n=xs.length∧n≤cap∧cap≤maxLen∧(∀ x∈xs,-9223372036854775808≤x∧x≤9223372036854775807) ∧
   (xs≠[]→∃ b off,a=some ⟨b,off,none⟩∧b<w.heap.size∧∀ (j:Nat) x,xs[j]?=some x→w.cell? ⟨b,off+j,none⟩=some (.int .i64 x)):=by
 obtain ⟨a',c',hv,h1,h2,_,h4,h5⟩:=h.open
 simp only [Value.slice.injEq] at hv
 obtain ⟨rfl,rfl,rfl⟩:=hv
 exact ⟨rfl,h1,h2,h4,h5⟩
theorem inCell.open {α:Type} {R:World→Value→α→Prop} {w:World} {v:Value} {xs:List α} (h:ListAt 1 (inCell R) w v xs) :
  ∃ (a:Option Addr) (cap:Nat),v=.slice a xs.length cap∧xs.length≤cap∧cap≤maxLen∧(a=none→cap=0) ∧
   (xs≠[]→∃ b off,a=some ⟨b,off,none⟩∧b<w.heap.size∧∀ (j:Nat) x,xs[j]?=some x→∃ u,R w u x∧w.cell? ⟨b,off+j,none⟩=some u):=by
 obtain ⟨a,cap,hv,h1,h2,h3,h4⟩:=ListAt.open h
 refine ⟨a,cap,hv,h1,h2,h3,fun hx=>?_⟩
 obtain ⟨b,off,ha,hb,hc⟩:=h4 (by omega) hx
 refine ⟨b,off,ha,hb,fun j x hj=>?_⟩
 obtain ⟨u,_,⟨v',rfl,hv'⟩,hcell⟩:=hc j x hj
 have:=hcell 0 (by omega)
 exact ⟨v',hv',by simpa using this⟩
theorem SeqAt.of_owns {w:World} {base:Nat} {e:TypeId} {size:Nat} {v:Value} {n:Nat} {cs:List Value} (h:w.ownsRow base e size v n cs):SeqAt w v n cs:=by
 have hc:=fun g hg=>h.cells (g:=g) hg
 obtain ⟨hl,h⟩:=h
 rcases h with ⟨rfl,rfl⟩ | ⟨g,cap,cur,rfl,hb,hg,h1,h2,h3,h4⟩
 ·exact ⟨none,0,rfl,Nat.le_refl _,Nat.zero_le _,fun _=>rfl,fun hne=>absurd (by simpa using hl) hne⟩
 ·refine ⟨_,cap,rfl,h1,h2,fun h=>by simp at h,fun hne=>⟨g,0,rfl,(Array.getElem?_eq_some_iff.1 hg).1,fun j u hu=>?_⟩⟩
  have:=hc g (by simp [Value.ownBlock]) j u hu
  rw [show (⟨g,0,none⟩:Addr).add j=⟨g,0+j,none⟩ by unfold Addr.add;split <;> simp_all] at this
  exact this
theorem flatten_one {α:Type} (f:α→Value) (xs:List α):(xs.map fun x=>[f x]).flatten=xs.map f:=by
 induction xs with
 | nil=>rfl
 | cons x xs ih=>simp [ih]
theorem SeqAt.lit (w:World) (us:List Value) (n:Nat) (T:TypeId) (hn:n≤maxLen):SeqAt (w.alloc (.cells us.toArray T)) (.slice (some ⟨w.heap.size,0,none⟩) n n) n us:=by
 refine ⟨_,n,rfl,Nat.le_refl _,hn,fun h=>by simp at h,fun _=>⟨w.heap.size,0,rfl,by simp,fun j u hu=>?_⟩⟩
 rw [Nat.zero_add,World.cell?_alloc_new]
 simpa using hu
theorem ListAt.lit {α:Type} {R:World→Value→α→Prop} (hR:∀ w w' v x,Ext w w'→R w v x→R w' v x) (w:World) (us:List Value) (xs:List α) (T:TypeId) (hl:us.length=xs.length) (hn:xs.length≤maxLen)
  (h:∀ (j:Nat) u x,us[j]?=some u→xs[j]?=some x→R w u x):ListAt 1 (inCell R) (w.alloc (.cells us.toArray T)) (.slice (some ⟨w.heap.size,0,none⟩) xs.length xs.length) xs:=by
 refine ⟨us.map fun u=>[u],by simpa using hl,by simp,?_,?_⟩
 ·rw [flatten_one (fun u=>u)]
  simpa using SeqAt.lit w us xs.length T hn
 ·intro j u x hu hx
  rw [List.getElem?_map] at hu
  cases hj:us[j]? with
  | none=>simp [hj] at hu
  | some v=>simp [hj] at hu;exact ⟨v,hu.symm,hR _ _ _ _ (Ext.alloc _ _) (h j v x hj hx)⟩
theorem Ints.lit (w:World) (xs:List Int) (T:TypeId) (hn:xs.length≤maxLen) (hb:∀ x∈xs,-9223372036854775808≤x∧x≤9223372036854775807) :
  Ints (w.alloc (.cells (xs.map (Value.int .i64)).toArray T)) (.slice (some ⟨w.heap.size,0,none⟩) xs.length xs.length) xs:=by
 refine ⟨xs.map fun x=>[Value.int .i64 x],by simp,by simp,?_,?_⟩
 ·rw [flatten_one]
  exact SeqAt.lit w _ xs.length T hn
 ·intro j u x hu hx
  simp only [List.getElem?_map,hx,Option.map_some,Option.some.injEq] at hu
  exact ⟨hu.symm,hb x (List.mem_of_getElem? hx)⟩
theorem made_ints (k:IntKind) (n:Nat):(madeCells #[Value.int k 0] n).toList=(List.replicate n (0:Int)).map (Value.int k) :=
 (toList_madeCells_one _ _).trans (by simp)
theorem Ints.of_owns {w:World} {base:Nat} {e:TypeId} {v:Value} {xs:List Int} (h:w.ownsRow base e 1 v xs.length (xs.map (Value.int .i64))) (hb:∀ x∈xs,-9223372036854775808≤x∧x≤9223372036854775807):Ints w v xs:=by
 refine ⟨xs.map fun x=>[Value.int .i64 x],by simp,by simp,?_,?_⟩
 ·have:=SeqAt.of_owns h
  rwa [flatten_one]
 ·intro j u x hu hx
  simp only [List.getElem?_map,hx,Option.map_some,Option.some.injEq] at hu
  exact ⟨hu.symm,hb x (List.mem_of_getElem? hx)⟩
end Go.Proofs.YtjlkkofmojgipaaGreatDoor
namespace Go.Proofs.YtjlkkofmojgipaaGreatDoor
set_option linter.unusedVariables false
set_option linter.unusedSimpArgs false
theorem infoInt:(Tryz.prog.info? 3).map (fun i=>(i.zero,i.size,i.bytes))=some (some (.int .i64 0),1,8):=by kernel_rfl
end Go.Proofs.YtjlkkofmojgipaaGreatDoor
namespace Go.Proofs.YtjlkkofmojgipaaGreatDoor
set_option linter.unusedVariables false
set_option linter.unusedSimpArgs false
open Go.RowKit
theorem owns_ext {w w':World} {base:Nat} {e:TypeId} {size:Nat} {v:Value} {n:Nat} {xs:List Value} (h:w.ownsRow base e size v n xs) (he:Ext w w'):w'.ownsRow base e size v n xs:=by
 refine h.kept (row:=none) ⟨he.os,he.tape,he.output,he.size,fun k hk _=>he.block k hk⟩ ?_
 cases hv:v.ownBlock <;> simp
theorem owns_shape {w:World} {base:Nat} {e:TypeId} {size:Nat} {v:Value} {n:Nat} {xs:List Value} (h:w.ownsRow base e size v n xs) (hn:0<n):∃ g cap,v=.slice (some ⟨g,0,none⟩) n cap∧base≤g∧g<w.heap.size∧n≤cap∧cap≤maxLen:=by
 rcases h.2 with ⟨_,rfl⟩ | ⟨g,cap,cur,rfl,hg,hh,h1,h2,_⟩
 ·omega
 ·exact ⟨g,cap,rfl,hg,(Array.getElem?_eq_some_iff.1 hh).1,h1,h2⟩
def Safe (w:World) (o:Option Nat) (P:World→Prop):Prop:=∀ w',w.grownBy w' o→P w'
theorem Safe.now {w:World} {o:Option Nat} {P:World→Prop} (h:Safe w o P):P w:=h w (World.grownBy.refl w o)
theorem grown_trans {a b c:World} {o:Option Nat} (h:a.grownBy b o) (k:b.grownBy c o):a.grownBy c o :=
 ⟨k.os.trans h.os,k.tape.trans h.tape,k.output.trans h.output,Nat.le_trans h.size k.size,fun i hi ho=>(k.block i (Nat.lt_of_lt_of_le hi h.size) ho).trans (h.block i hi ho)⟩
theorem Ext.grown {w w':World} (h:Ext w w') (o:Option Nat):w.grownBy w' o:=⟨h.os,h.tape,h.output,h.size,fun k hk _=>h.block k hk⟩
theorem Safe.ext {w w':World} {o:Option Nat} {P:World→Prop} (h:Safe w o P) (he:Ext w w'):Safe w' o P:=fun _ hg=>h _ (grown_trans (he.grown o) hg)
theorem Safe.append {w w1:World} {v v':Value} {P:World→Prop} (h:Safe w v.ownBlock P) (hg:w.grownBy w1 v.ownBlock) (hat:v'.ownBlock=v.ownBlock∨v'.ownBlock=some w.heap.size):Safe w1 v'.ownBlock P:=by
 intro w2 h2
 refine h w2 ⟨h2.os.trans hg.os,h2.tape.trans hg.tape,h2.output.trans hg.output,Nat.le_trans hg.size h2.size,fun i hi ho=>?_⟩
 refine (h2.block i (Nat.lt_of_lt_of_le hi hg.size) ?_).trans (hg.block i hi ho)
 rcases hat with e | e
 ·rw [e];exact ho
 ·rw [e];intro e';cases e';omega
theorem Safe.mono {w:World} {o:Option Nat} {P P':World→Prop} (h:Safe w o P) (hp:∀ w,P w→P' w):Safe w o P':=fun w' hg=>hp _ (h w' hg)
theorem Safe.owns {w:World} {o:Option Nat} {base:Nat} {e:TypeId} {size:Nat} {v:Value} {n:Nat} {xs:List Value} (h:w.ownsRow base e size v n xs) (hne:v.ownBlock=none∨v.ownBlock≠o):Safe w o fun w=>w.ownsRow base e size v n xs :=
 fun _ hg=>h.kept hg hne
theorem Safe.below {w0 w:World} {o:Option Nat} {P:World→Prop} (hP:∀ w',Ext w0 w'→P w') (he:Ext w0 w) (ho:∀ k,o=some k→w0.heap.size≤k):Safe w o P:=by
 intro w' hg
 refine hP w' (Below.trans he (c:=w') ⟨hg.os,hg.tape,hg.output,hg.size,fun k hk=>hg.block k (Nat.lt_of_lt_of_le hk he.size) ?_⟩)
 intro e
 have:=ho k e.symm
 omega
def Build {α:Type} (w:World) (base:Nat) (e:TypeId) (k:Nat) (v:Value) (R:World→List Value→α→Prop) (xs:List α):Prop :=
 ∃ us:List (List Value),us.length=xs.length∧(∀ u∈us,u.length=k)∧w.ownsRow base e k v xs.length us.flatten ∧
  ∀ (j:Nat) u x,us[j]?=some u→xs[j]?=some x→Safe w v.ownBlock fun w=>R w u x
section
variable {α:Type} {w w':World} {base:Nat} {e:TypeId} {k:Nat} {v:Value} {R:World→List Value→α→Prop} {xs:List α}
theorem Build.nil (w:World) (base:Nat) (e:TypeId) (k:Nat) (R:World→List Value→α→Prop):Build w base e k (.slice none 0 0) R [] :=
 ⟨[],rfl,by simp,by simpa using World.ownsRow_nil w base e k,by simp⟩
theorem Build.ext (h:Build w base e k v R xs) (he:Ext w w'):Build w' base e k v R xs:=by
 obtain ⟨us,h1,h2,h3,h4⟩:=h
 exact ⟨us,h1,h2,owns_ext h3 he,fun j u x hu hx=>(h4 j u x hu hx).ext he⟩
theorem Build.list (h:Build w base e k v R xs):ListAt k R w v xs:=by
 obtain ⟨us,h1,h2,h3,h4⟩:=h
 exact ⟨us,h1,h2,SeqAt.of_owns h3,fun j u x hu hx=>(h4 j u x hu hx).now⟩
theorem Build.lt (h:Build w base e k v R xs):∀ b,v.ownBlock=some b→base≤b∧b<w.heap.size:=by
 obtain ⟨us,h1,h2,h3,h4⟩:=h
 exact h3.lt
theorem Build.mono {R':World→List Value→α→Prop} (h:Build w base e k v R xs) (hR:∀ w u x,R w u x→R' w u x):Build w base e k v R' xs:=by
 obtain ⟨us,h1,h2,h3,h4⟩:=h
 exact ⟨us,h1,h2,h3,fun j u x hu hx=>(h4 j u x hu hx).mono fun w=>hR w u x⟩
theorem Build.made (w:World) (cur:Array Value) (cap:Nat) (hb:base≤w.heap.size) (hm:cap≤maxLen) (hs:cur.size=cap*k):Build (w.alloc (.cells cur e)) base e k (.slice (some ⟨w.heap.size,0,none⟩) 0 cap) R [] :=
 ⟨[],rfl,by simp,by simpa using World.ownsRow_made w cur cap hb hm hs,by simp⟩
theorem Build.lit (w:World) (us:List (List Value)) (xs:List α) (hb:base≤w.heap.size) (hl:us.length=xs.length) (hk:∀ u∈us,u.length=k) (hn:xs.length≤maxLen) (h:∀ (j:Nat) u x,us[j]?=some u→xs[j]?=some x→∀ w',Ext w w'→R w' u x) :
  Build (w.alloc (.cells us.flatten.toArray e)) base e k (.slice (some ⟨w.heap.size,0,none⟩) xs.length xs.length) R xs:=by
 have hfl:us.flatten.length=xs.length*k:=by
  rw [← hl];clear hl hn h
  induction us with
  | nil=>simp
  | cons u us ih=>rw [List.flatten_cons,List.length_append,hk u (by simp),ih (fun u hu=>hk u (by simp [hu])),List.length_cons,Nat.succ_mul];omega
 refine ⟨us,hl,hk,?_,?_⟩
 ·have:=World.ownsRow_lit (e:=e) (size:=k) w us.flatten.toArray xs.length hb hn (by simpa using hfl)
  simpa using this
 ·intro j u x hu hx
  refine Safe.below (w0:=w) (fun w' he=>h j u x hu hx w' he) (Ext.alloc _ _) ?_
  intro b hb
  simp [Value.ownBlock] at hb
  omega
end
theorem flatten_snoc {α:Type} (l:List (List α)) (x:List α):(l++[x]).flatten=l.flatten++x:=by simp
theorem wp_append_own_at {P:Program} (w:World) {o:Oper} {a:Act} {K:Act→World→Prop} {Q:Exit→Act→World→Prop} (s x:Operand) (t:TypeId)
  (ho:o.op=.call { callee:=.builtin .append,args:=#[s,x],argTypes:=#[t,t] })
  (base:Nat) (e:TypeId) (i:TypeInfo) (z:Value) (size bytes:Nat) (ht:P.underlying t=some (.slice e)) (hi:P.info? e=some i) (hz:i.zero=some z)
  (hsize:i.size=size) (hby:i.bytes=bytes) (hzs:z.cells.size=size) (hsz:0<size)
  (v:Value) (n:Nat) (xs:List Value) (hs:a.eval s=v) (hown:w.ownsRow base e size v n xs)
  (ad:Addr) (m c:Nat) (news:List Value) (hx:a.eval x=.slice (some ad) m c) (hl:news.length=m*size) (hnews:∀ (j:Nat) u,news[j]?=some u→w.cell? (ad.add j)=some u) (h1:∀ u∈news,u.oneCell'=true)
  (h63:n+m≤maxLen) (hbytes:(n+m)*bytes≤140737488355328) (hbase:base≤w.heap.size)
  (h:∀ v' w',w'.ownsRow base e size v' (n+m) (xs++news)→w.grownBy w' v.ownBlock→(v'=.slice none 0 0↔v=.slice none 0 0∧m=0)→(v'.ownBlock=v.ownBlock∨v'.ownBlock=some w.heap.size)→K (a.put o.dst v') w') :
  o.wp P a w K Q:=by
 obtain ⟨v',w',hr,h2,h3,h4,h5⟩:=run_append_own_at (P:=P) w base t o.type e i z size bytes ht hi hz hsize hby hzs hsz v n xs hown ad m c news hl hnews h1 h63 hbytes hbase
 unfold Oper.wp execOp
 simp only [ho,resolve,invoke,builtin,Sem.run_bind,Sem.run_pure,Result.andThen_ok,List.map_toArray,List.map_cons,List.map_nil,hs,hx,hr]
 exact h v' w' h2 h3 h4 h5
theorem wp_append_buildL {P:Program} {α:Type} (w:World) {o:Oper} {a:Act} {K:Act→World→Prop} {Q:Exit→Act→World→Prop}
  (s x:Operand) (t:TypeId) (ho:o.op=Op.call { callee:=Callee.builtin Builtin.append,args:=#[s,x],argTypes:=#[t,t] }) (base:Nat) (e:TypeId) (z:Value) (k bytes:Nat)
  (ht:P.underlying t=some (TypeDesc.slice e)) (hinfo:(P.info? e).map (fun i=>(i.zero,i.size,i.bytes))=some (some z,k,bytes)) (hzs:z.cells.size=k) (hk:0<k)
  (v:Value) (R:World→List Value→α→Prop) (xs:List α) (y:α) (u:Array Value) (T:TypeId) (hs:a.eval s=v) (hB:Build w base e k v R xs)
  (hx:a.eval x=.slice (some ⟨w.heap.size,0,none⟩) 1 1) (hu:u.size=k) (h1:∀ z∈u.toList,z.oneCell'=true) (hR:Safe w v.ownBlock fun w=>R w u.toList y)
  (hlen:xs.length<100000000000) (hbytes:bytes≤1000) (hbase:base≤w.heap.size)
  (h:∀ v' w',Build w' base e k v' R (xs++[y])→w.grownBy w' v.ownBlock→Below base w w'→w.heap.size<w'.heap.size→(∀ Pr:World→Prop,Safe w v.ownBlock Pr→Safe w' v'.ownBlock Pr)→K (a.put o.dst v') w') :
  o.wp P a (w.alloc (.cells u T)) K Q:=by
 obtain ⟨i,hi,hz,hsize,hby⟩:=info_parts hinfo
 obtain ⟨us,b1,b2,b3,b4⟩:=hB
 have hadd:∀ j,(⟨w.heap.size,0,none⟩:Addr).add j=⟨w.heap.size,j,none⟩:=by intro j;unfold Addr.add;split <;> simp_all
 refine wp_append_own_at (w.alloc (.cells u T)) s x t ho base e i z k bytes ht hi hz hsize hby hzs hk v xs.length us.flatten hs (b3.alloc _) ⟨w.heap.size,0,none⟩ 1 1 u.toList hx (by simp [hu]) ?_ h1 ?_ ?_ ?_ ?_
 ·intro j q hq
  rw [hadd,World.cell?_alloc_new]
  simpa using hq
 ·unfold maxLen;omega
 ·have:(xs.length+1)*bytes≤100000000000*1000:=Nat.mul_le_mul (by omega) hbytes
  omega
 ·simp;omega
 ·intro v' w' hown hgrow _ hat
  have hgw:w.grownBy w' v.ownBlock:=grown_trans (World.grownBy_alloc w _ v.ownBlock) hgrow
  have safe:∀ Pr:World→Prop,Safe w v.ownBlock Pr→Safe w' v'.ownBlock Pr:=fun Pr hP=>Safe.append (Safe.ext hP (Ext.alloc w (.cells u T))) hgrow hat
  refine h v' w' ⟨us++[u.toList],by simp [b1],?_,?_,?_⟩ hgw ?_ ?_ safe
  ·intro q hq
   rcases List.mem_append.1 hq with hq | hq
   ·exact b2 q hq
   ·rw [List.mem_singleton.1 hq];simpa using hu
  ·rw [flatten_snoc]
   simpa using hown
  ·intro j q y' hq hy
   by_cases hj:j<us.length
   ·rw [List.getElem?_append_left hj] at hq
    rw [List.getElem?_append_left (by omega)] at hy
    exact safe _ (b4 j q y' hq hy)
   ·rw [List.getElem?_append_right (by omega)] at hq
    rw [List.getElem?_append_right (by omega)] at hy
    have e1:j-us.length=0:=by
     have:=(List.getElem?_eq_some_iff.1 hq).1
     simp at this;omega
    have e2:j-xs.length=0:=by omega
    rw [e1] at hq;rw [e2] at hy
    simp at hq hy
    subst hq;subst hy
    exact safe _ hR
  ·refine ⟨hgw.os,hgw.tape,hgw.output,hgw.size,fun b hb=>hgw.block b (by omega) ?_⟩
   intro e
   have:=(b3.lt b e.symm).1
   omega
  ·have:=hgrow.size
   simp at this
   omega
theorem wpList_append_buildL {P:Program} {α:Type} (w:World) {ops:Array Oper} {rest:List Oper} {o:Oper} {a:Act} {Q:Exit→Act→World→Prop} (hgd:o.guard=none)
  (s x:Operand) (t:TypeId) (ho:o.op=Op.call { callee:=Callee.builtin Builtin.append,args:=#[s,x],argTypes:=#[t,t] }) (base:Nat) (e:TypeId) (z:Value) (k bytes:Nat)
  (ht:P.underlying t=some (TypeDesc.slice e)) (hinfo:(P.info? e).map (fun i=>(i.zero,i.size,i.bytes))=some (some z,k,bytes)) (hzs:z.cells.size=k) (hk:0<k)
  (v:Value) (R:World→List Value→α→Prop) (xs:List α) (y:α) (u:Array Value) (T:TypeId) (hs:a.eval s=v) (hB:Build w base e k v R xs)
  (hx:a.eval x=.slice (some ⟨w.heap.size,0,none⟩) 1 1) (hu:u.size=k) (h1:∀ z∈u.toList,z.oneCell'=true) (hR:Safe w v.ownBlock fun w=>R w u.toList y)
  (hlen:xs.length<100000000000) (hbytes:bytes≤1000) (hbase:base≤w.heap.size)
  (h:∀ v' w',Build w' base e k v' R (xs++[y])→w.grownBy w' v.ownBlock→Below base w w'→w.heap.size<w'.heap.size→(∀ Pr:World→Prop,Safe w v.ownBlock Pr→Safe w' v'.ownBlock Pr)→wpList P ops Q rest (a.put o.dst v') w') :
  wpList P ops Q (o::rest) a (w.alloc (.cells u T)) :=
 wpList_plain hgd fun _ hK=>wp_append_buildL w s x t ho base e z k bytes ht hinfo hzs hk v R xs y u T hs hB hx hu h1 hR hlen hbytes hbase fun v' w' a1 a2 a3 a4 a5=>hK _ _ (h v' w' a1 a2 a3 a4 a5)
theorem wpList_append_build {P:Program} {α:Type} (w:World) {ops:Array Oper} {rest:List Oper} {o:Oper} {a:Act} {Q:Exit→Act→World→Prop} (hgd:o.guard=none)
  (s x:Operand) (t:TypeId) (ho:o.op=Op.call { callee:=Callee.builtin Builtin.append,args:=#[s,x],argTypes:=#[t,t] }) (base:Nat) (e:TypeId) (z:Value) (k bytes:Nat)
  (ht:P.underlying t=some (TypeDesc.slice e)) (hinfo:(P.info? e).map (fun i=>(i.zero,i.size,i.bytes))=some (some z,k,bytes)) (hzs:z.cells.size=k) (hk:0<k)
  (v:Value) (R:World→List Value→α→Prop) (xs:List α) (y:α) (u:Array Value) (T:TypeId) (hs:a.eval s=v) (hB:Build w base e k v R xs)
  (hx:a.eval x=.slice (some ⟨w.heap.size,0,none⟩) 1 1) (hu:u.size=k) (h1:∀ z∈u.toList,z.oneCell'=true) (hR:Safe w v.ownBlock fun w=>R w u.toList y)
  (hlen:xs.length<1000000) (hbytes:bytes≤1000) (hbase:base≤w.heap.size)
  (h:∀ v' w',Build w' base e k v' R (xs++[y])→w.grownBy w' v.ownBlock→Below base w w'→w.heap.size<w'.heap.size→(∀ Pr:World→Prop,Safe w v.ownBlock Pr→Safe w' v'.ownBlock Pr)→wpList P ops Q rest (a.put o.dst v') w') :
  wpList P ops Q (o::rest) a (w.alloc (.cells u T)) :=
 wpList_append_buildL w hgd s x t ho base e z k bytes ht hinfo hzs hk v R xs y u T hs hB hx hu h1 hR (Nat.lt_trans hlen (by decide)) hbytes hbase h
theorem step_append_buildL {P:Program} {α:Type} (w:World) {ops:Array Oper} {o:Oper} {a:Act} {K:Act→World→Prop} {Q:Exit→Act→World→Prop} {E:Prop} (hgd:o.guard=none)
  (s x:Operand) (t:TypeId) (ho:o.op=Op.call { callee:=Callee.builtin Builtin.append,args:=#[s,x],argTypes:=#[t,t] }) (base:Nat) (e:TypeId) (z:Value) (k bytes:Nat)
  (ht:P.underlying t=some (TypeDesc.slice e)) (hinfo:(P.info? e).map (fun i=>(i.zero,i.size,i.bytes))=some (some z,k,bytes)) (hzs:z.cells.size=k) (hk:0<k)
  (v:Value) (R:World→List Value→α→Prop) (xs:List α) (y:α) (u:Array Value) (T:TypeId) (hs:a.eval s=v) (hB:Build w base e k v R xs)
  (hx:a.eval x=.slice (some ⟨w.heap.size,0,none⟩) 1 1) (hu:u.size=k) (h1:∀ z∈u.toList,z.oneCell'=true) (hR:Safe w v.ownBlock fun w=>R w u.toList y)
  (hlen:xs.length<100000000000) (hbytes:bytes≤1000) (hbase:base≤w.heap.size)
  (h:∀ v' w',Build w' base e k v' R (xs++[y])→w.grownBy w' v.ownBlock→Below base w w'→w.heap.size<w'.heap.size→(∀ Pr:World→Prop,Safe w v.ownBlock Pr→Safe w' v'.ownBlock Pr)→K (a.put o.dst v') w') :
  if Region.wanted o (yielded ops a.tmps)=true then Oper.wp P o a (w.alloc (.cells u T)) K Q else E:=by
 have hw:Region.wanted o (yielded ops a.tmps)=true:=by simp [Region.wanted,hgd]
 rw [if_pos hw]
 exact wp_append_buildL w s x t ho base e z k bytes ht hinfo hzs hk v R xs y u T hs hB hx hu h1 hR hlen hbytes hbase h
theorem step_append_build {P:Program} {α:Type} (w:World) {ops:Array Oper} {o:Oper} {a:Act} {K:Act→World→Prop} {Q:Exit→Act→World→Prop} {E:Prop} (hgd:o.guard=none)
  (s x:Operand) (t:TypeId) (ho:o.op=Op.call { callee:=Callee.builtin Builtin.append,args:=#[s,x],argTypes:=#[t,t] }) (base:Nat) (e:TypeId) (z:Value) (k bytes:Nat)
  (ht:P.underlying t=some (TypeDesc.slice e)) (hinfo:(P.info? e).map (fun i=>(i.zero,i.size,i.bytes))=some (some z,k,bytes)) (hzs:z.cells.size=k) (hk:0<k)
  (v:Value) (R:World→List Value→α→Prop) (xs:List α) (y:α) (u:Array Value) (T:TypeId) (hs:a.eval s=v) (hB:Build w base e k v R xs)
  (hx:a.eval x=.slice (some ⟨w.heap.size,0,none⟩) 1 1) (hu:u.size=k) (h1:∀ z∈u.toList,z.oneCell'=true) (hR:Safe w v.ownBlock fun w=>R w u.toList y)
  (hlen:xs.length<1000000) (hbytes:bytes≤1000) (hbase:base≤w.heap.size)
  (h:∀ v' w',Build w' base e k v' R (xs++[y])→w.grownBy w' v.ownBlock→Below base w w'→w.heap.size<w'.heap.size→(∀ Pr:World→Prop,Safe w v.ownBlock Pr→Safe w' v'.ownBlock Pr)→K (a.put o.dst v') w') :
  if Region.wanted o (yielded ops a.tmps)=true then Oper.wp P o a (w.alloc (.cells u T)) K Q else E :=
 step_append_buildL w hgd s x t ho base e z k bytes ht hinfo hzs hk v R xs y u T hs hB hx hu h1 hR (Nat.lt_trans hlen (by decide)) hbytes hbase h
structure GrownS (S:Nat→Prop) (w w':World):Prop where
 os:w'.os=w.os
 tape:w'.tape=w.tape
 output:w'.output=w.output
 size:w.heap.size≤w'.heap.size
 block:∀ k,k<w.heap.size→¬ S k→w'.heap[k]?=w.heap[k]?
theorem GrownS.refl (S:Nat→Prop) (w:World):GrownS S w w:=⟨rfl,rfl,rfl,Nat.le_refl _,fun _ _ _=>rfl⟩
theorem GrownS.trans {S:Nat→Prop} {a b c:World} (h:GrownS S a b) (k:GrownS S b c):GrownS S a c :=
 ⟨k.os.trans h.os,k.tape.trans h.tape,k.output.trans h.output,Nat.le_trans h.size k.size,fun i hi ho=>(k.block i (Nat.lt_of_lt_of_le hi h.size) ho).trans (h.block i hi ho)⟩
theorem GrownS.weak {S S':Nat→Prop} {a b:World} (h:GrownS S a b) (hS:∀ k,k<a.heap.size→S k→S' k):GrownS S' a b :=
 ⟨h.os,h.tape,h.output,h.size,fun i hi ho=>h.block i hi fun hs=>ho (hS i hi hs)⟩
theorem Ext.grownS {w w':World} (h:Ext w w') (S:Nat→Prop):GrownS S w w':=⟨h.os,h.tape,h.output,h.size,fun k hk _=>h.block k hk⟩
theorem grownBy_S {S:Nat→Prop} {w w':World} {o:Option Nat} (h:w.grownBy w' o) (ho:∀ k,o=some k→S k):GrownS S w w' :=
 ⟨h.os,h.tape,h.output,h.size,fun k hk hs=>h.block k hk fun e=>hs (ho k e.symm)⟩
def SafeS (w:World) (S:Nat→Prop) (P:World→Prop):Prop:=∀ w',GrownS S w w'→P w'
theorem SafeS.now {w:World} {S:Nat→Prop} {P:World→Prop} (h:SafeS w S P):P w:=h w (GrownS.refl S w)
theorem SafeS.grow {w w':World} {S S':Nat→Prop} {P:World→Prop} (h:SafeS w S P) (hg:GrownS S w w') (hS:∀ k,S' k→S k∨w.heap.size≤k):SafeS w' S' P:=by
 intro w2 h2
 refine h w2 ⟨h2.os.trans hg.os,h2.tape.trans hg.tape,h2.output.trans hg.output,Nat.le_trans hg.size h2.size,fun i hi ho=>?_⟩
 refine (h2.block i (Nat.lt_of_lt_of_le hi hg.size) fun hs=>?_).trans (hg.block i hi ho)
 rcases hS i hs with h | h
 ·exact ho h
 ·omega
theorem SafeS.ext {w w':World} {S:Nat→Prop} {P:World→Prop} (h:SafeS w S P) (he:Ext w w'):SafeS w' S P:=h.grow (he.grownS S) fun _ hs=>.inl hs
theorem SafeS.mono {w:World} {S:Nat→Prop} {P P':World→Prop} (h:SafeS w S P) (hp:∀ w,P w→P' w):SafeS w S P':=fun w' hg=>hp _ (h w' hg)
theorem SafeS.below {w0 w:World} {S:Nat→Prop} {P:World→Prop} (hP:∀ w',Ext w0 w'→P w') (he:Ext w0 w) (ho:∀ k,S k→w0.heap.size≤k):SafeS w S P:=by
 intro w' hg
 refine hP w' (Below.trans he (c:=w') ⟨hg.os,hg.tape,hg.output,hg.size,fun k hk=>hg.block k (Nat.lt_of_lt_of_le hk he.size) fun hs=>?_⟩)
 have:=ho k hs
 omega
theorem SafeS.owns {w:World} {S:Nat→Prop} {base:Nat} {e:TypeId} {size:Nat} {v:Value} {n:Nat} {xs:List Value} (h:w.ownsRow base e size v n xs) (hne:∀ k,v.ownBlock=some k→¬ S k):SafeS w S fun w=>w.ownsRow base e size v n xs:=by
 intro w' hg
 refine ⟨h.1,?_⟩
 rcases h.2 with hn | ⟨g,cap,cur,rfl,hb,hgg,rest⟩
 ·exact .inl hn
 ·refine .inr ⟨g,cap,cur,rfl,hb,?_,rest⟩
  rw [hg.block g (Array.getElem?_eq_some_iff.1 hgg).1 (hne g rfl)]
  exact hgg
def SOk (S:Nat→Prop) (base:Nat) (w:World):Prop:=∀ b,S b→base≤b∧b<w.heap.size
theorem SOk.grow {S:Nat→Prop} {base:Nat} {w w':World} (h:SOk S base w) (hs:w.heap.size≤w'.heap.size):SOk S base w':=fun b hb=>⟨(h b hb).1,Nat.lt_of_lt_of_le (h b hb).2 hs⟩
theorem SafeS.seq {w:World} {S:Nat→Prop} {n m:Nat} {cs:List Value} {b off:Nat} (h:SeqAt w (.slice (some ⟨b,off,none⟩) n m) n cs) (hb:¬ S b):SafeS w S fun w=>SeqAt w (.slice (some ⟨b,off,none⟩) n m) n cs:=by
 intro w' hg
 obtain ⟨a,cap,hv,h1,h2,h3,h4⟩:=h
 simp only [Value.slice.injEq] at hv
 obtain ⟨rfl,-,rfl⟩:=hv
 refine ⟨_,_,rfl,h1,h2,h3,fun hn=>?_⟩
 obtain ⟨b',off',ha,hlt,hc⟩:=h4 hn
 simp only [Option.some.injEq,Addr.mk.injEq] at ha
 obtain ⟨rfl,rfl,-⟩:=ha
 refine ⟨b,off,rfl,Nat.lt_of_lt_of_le hlt hg.size,fun j u hu=>?_⟩
 exact (World.cell?_of_block (a:=⟨b,off+j,none⟩) (hg.block b hlt hb)).trans (hc j u hu)
theorem SafeS.listAt {α:Type} {k:Nat} {R:World→List Value→α→Prop} {w:World} {S:Nat→Prop} {v:Value} {xs:List α} (us:List (List Value)) (h1:us.length=xs.length) (h2:∀ u∈us,u.length=k)
  (h3:SafeS w S fun w=>SeqAt w v xs.length us.flatten) (h4:∀ (j:Nat) u x,us[j]?=some u→xs[j]?=some x→SafeS w S fun w=>R w u x):SafeS w S fun w=>ListAt k R w v xs :=
 fun w' hg=>⟨us,h1,h2,h3 w' hg,fun j u x hu hx=>h4 j u x hu hx w' hg⟩
theorem SafeS.ints {w:World} {S:Nat→Prop} {g off n m:Nat} {xs:List Int} (h:Ints w (.slice (some ⟨g,off,none⟩) n m) xs) (hg:¬ S g):SafeS w S fun w=>Ints w (.slice (some ⟨g,off,none⟩) n m) xs:=by
 obtain ⟨us,h1,h2,h3,h4⟩:=h
 obtain ⟨a',c',hv,_⟩:=id h3
 simp only [Value.slice.injEq] at hv
 obtain ⟨-,rfl,-⟩:=hv
 exact SafeS.listAt us h1 h2 (SafeS.seq h3 hg) (fun j u x hu hx w' _=>h4 j u x hu hx)
theorem SafeS.lit {α:Type} {R:World→Value→α→Prop} {w:World} {S:Nat→Prop} {n:Nat} (hS:∀ b,S b→b<w.heap.size) (hn:n=w.heap.size) (us:List Value) (xs:List α) (T:TypeId) (m:Nat) (hm:m=xs.length) (hl:us.length=xs.length) (hx:xs.length≤maxLen) (C:Array Value) (hC:C=us.toArray)
  (h:∀ (j:Nat) u x,us[j]?=some u→xs[j]?=some x→SafeS w S fun w=>R w u x):SafeS (w.alloc (.cells C T)) S fun w'=>ListAt 1 (inCell R) w' (.slice (some ⟨n,0,none⟩) m m) xs:=by
 subst hn;subst hm;subst hC
 refine SafeS.listAt (us.map fun u=>[u]) (by simpa using hl) (by simp) ?_ ?_
 ·rw [flatten_one (fun u=>u)]
  have:=SafeS.seq (S:=S) (SeqAt.lit w us xs.length T hx) (fun hb=>by have:=hS _ hb;omega)
  simpa using this
 ·intro j u x hu hx
  rw [List.getElem?_map] at hu
  cases hj:us[j]? with
  | none=>simp [hj] at hu
  | some v=>simp [hj] at hu;exact ((h j v x hj hx).ext (Ext.alloc _ _)).mono fun w hw=>⟨v,hu.symm,hw⟩
theorem block_cell {w:World} {B:Nat} {C:Array Value} {T:TypeId} (h:w.heap[B]?=some (.cells C T (0,0))) (i:Nat):w.cell? ⟨B,i,none⟩=C[i]?:=by simp [World.cell?,h]
theorem block_free {w:World} {B:Nat} {C:Array Value} {T:TypeId} (h:w.heap[B]?=some (.cells C T (0,0))) (i:Nat):w.frozen? ⟨B,i,none⟩=false:=by simp [World.frozen?,h]
theorem block_lt {w:World} {B:Nat} {o:Obj} (h:w.heap[B]?=some o):B<w.heap.size:=(Array.getElem?_eq_some_iff.1 h).1
theorem block_set {w:World} {B:Nat} {C:Array Value} {T:TypeId} (h:w.heap[B]?=some (.cells C T (0,0))) (i:Nat) (x:Value):(w.setCell ⟨B,i,none⟩ x).heap[B]?=some (.cells (C.setIfInBounds i x) T (0,0)):=by
 have hlt:=block_lt h
 have h':w.heap[B]=.cells C T (0,0):=by simpa [Array.getElem?_eq_getElem hlt] using h
 show (w.heap.modify B _)[B]?=_
 rw [Array.getElem?_eq_getElem (by simpa using hlt),Array.getElem_modify_self,h']
 rfl
theorem block_ext {w w':World} {B:Nat} {o:Obj} (h:w.heap[B]?=some o) (he:Ext w w'):w'.heap[B]?=some o:=(he.block B (block_lt h)).trans h
theorem block_new (w:World) (C:Array Value) (T:TypeId):(w.alloc (.cells C T)).heap[w.heap.size]?=some (.cells C T (0,0)):=heap_alloc_new w _
theorem grown_setCell (w:World) (B i:Nat) (x:Value):w.grownBy (w.setCell ⟨B,i,none⟩ x) (some B) :=
 ⟨rfl,rfl,rfl,by simp [World.setCell],fun k hk hne=>Below.heap_setCell _ _ _ _ (fun e=>hne (by rw [e]))⟩
def BuildS {α:Type} (w:World) (S:Nat→Prop) (base:Nat) (e:TypeId) (k:Nat) (v:Value) (R:World→List Value→α→Prop) (xs:List α):Prop :=
 (∀ b,v.ownBlock=some b→S b)∧∃ us:List (List Value),us.length=xs.length∧(∀ u∈us,u.length=k)∧w.ownsRow base e k v xs.length us.flatten ∧
  ∀ (j:Nat) u x,us[j]?=some u→xs[j]?=some x→SafeS w S fun w=>R w u x
section
variable {α:Type} {w w':World} {S S':Nat→Prop} {base:Nat} {e:TypeId} {k:Nat} {v:Value} {R:World→List Value→α→Prop} {xs:List α}
theorem BuildS.nil (w:World) (S:Nat→Prop) (base:Nat) (e:TypeId) (k:Nat) (R:World→List Value→α→Prop):BuildS w S base e k (.slice none 0 0) R [] :=
 ⟨by intro b h;simp [Value.ownBlock] at h,[],rfl,by simp,by simpa using World.ownsRow_nil w base e k,by simp⟩
theorem BuildS.ext (h:BuildS w S base e k v R xs) (he:Ext w w'):BuildS w' S base e k v R xs:=by
 obtain ⟨h0,us,h1,h2,h3,h4⟩:=h
 exact ⟨h0,us,h1,h2,owns_ext h3 he,fun j u x hu hx=>(h4 j u x hu hx).ext he⟩
theorem BuildS.list (h:BuildS w S base e k v R xs):ListAt k R w v xs:=by
 obtain ⟨h0,us,h1,h2,h3,h4⟩:=h
 exact ⟨us,h1,h2,SeqAt.of_owns h3,fun j u x hu hx=>(h4 j u x hu hx).now⟩
theorem BuildS.lt (h:BuildS w S base e k v R xs):∀ b,v.ownBlock=some b→base≤b∧b<w.heap.size:=by
 obtain ⟨h0,us,h1,h2,h3,h4⟩:=h
 exact h3.lt
theorem BuildS.shape (h:BuildS w S base e k v R xs) (hx:0<xs.length):∃ g cap,v=.slice (some ⟨g,0,none⟩) xs.length cap∧base≤g∧g<w.heap.size∧xs.length≤cap∧cap≤maxLen:=by
 obtain ⟨h0,us,h1,h2,h3,h4⟩:=h
 exact owns_shape h3 hx
theorem BuildS.store (h:BuildS w S base e k v R xs) {B i:Nat} {x:Value} (hB:S B) (hne:v.ownBlock≠some B):BuildS (w.setCell ⟨B,i,none⟩ x) S base e k v R xs:=by
 obtain ⟨h0,us,h1,h2,h3,h4⟩:=h
 refine ⟨h0,us,h1,h2,h3.kept (grown_setCell w B i x) ?_,fun j u x hu hx=>(h4 j u x hu hx).grow (grownBy_S (grown_setCell w B i _) (fun k hk=>by cases hk;exact hB)) (fun k hk=>.inl hk)⟩
 cases hv:v.ownBlock with
 | none=>exact .inl rfl
 | some b=>exact .inr (fun e=>hne (hv.trans e))
theorem BuildS.other {o:Option Nat} (h:BuildS w S base e k v R xs) (hg:w.grownBy w' o) (ho:∀ b,o=some b→S b) (hne:∀ b,v.ownBlock=some b→o≠some b) (hS:∀ k,S' k→S k∨w.heap.size≤k) (hSS:∀ k,S k→S' k):BuildS w' S' base e k v R xs:=by
 obtain ⟨h0,us,h1,h2,h3,h4⟩:=h
 refine ⟨fun b hb=>hSS _ (h0 b hb),us,h1,h2,h3.kept hg ?_,fun j u x hu hx=>(h4 j u x hu hx).grow (grownBy_S hg ho) hS⟩
 cases hv:v.ownBlock with
 | none=>exact .inl rfl
 | some b=>exact .inr (fun e=>hne b hv e.symm)
theorem SafeS.weak {w:World} {S S':Nat→Prop} {P:World→Prop} (h:SafeS w S P) (hS:∀ b,S' b→S b):SafeS w S' P:=fun w' hg=>h w' (hg.weak fun b _ hb=>hS b hb)
theorem BuildS.finish {g n cap:Nat} (h:BuildS w S base e k (.slice (some ⟨g,0,none⟩) n cap) R xs) (hn:n=xs.length):SafeS w (fun b=>S b∧b≠g) fun w=>ListAt k R w (.slice (some ⟨g,0,none⟩) n cap) xs:=by
 subst hn
 obtain ⟨h0,us,h1,h2,h3,h4⟩:=h
 exact SafeS.listAt us h1 h2 (SafeS.seq (SeqAt.of_owns h3) (fun hb=>hb.2 rfl)) (fun j u x hu hx=>(h4 j u x hu hx).weak fun b hb=>hb.1)
theorem BuildS.keeps (h:BuildS w S base e k v R xs) (hS:∀ b,S' b→S b∧b<base):SafeS w S' fun w=>ListAt k R w v xs:=by
 by_cases hx:0<xs.length
 ·obtain ⟨g,cap,rfl,hb,-,-,-⟩:=h.shape hx
  exact (h.finish rfl).weak fun b hb'=>⟨(hS b hb').1,fun e=>by have:=(hS b hb').2;omega⟩
 ·obtain ⟨h0,us,h1,h2,h3,h4⟩:=h
  have hx0:xs=[]:=List.length_eq_zero_iff.1 (by omega)
  subst hx0
  have hu0:us=[]:=List.length_eq_zero_iff.1 h1
  subst hu0
  obtain ⟨a,c,hv,g1,g2,g3,-⟩:=SeqAt.of_owns h3
  intro w' _
  exact ⟨[],rfl,by simp,⟨a,c,hv,g1,g2,g3,fun hn=>absurd rfl hn⟩,by simp⟩
theorem BuildS.shrink (h:BuildS w S base e k v R xs) (hS:∀ b,S' b→S b) (hv:∀ b,v.ownBlock=some b→S' b):BuildS w S' base e k v R xs:=by
 obtain ⟨h0,us,h1,h2,h3,h4⟩:=h
 exact ⟨hv,us,h1,h2,h3,fun j u x hu hx=>(h4 j u x hu hx).weak hS⟩
theorem BuildS.drop {g:Nat} (h:BuildS w S base e k v R xs) (hv:v.ownBlock≠some g):BuildS w (fun b=>S b∧b≠g) base e k v R xs :=
 h.shrink (fun b hb=>hb.1) fun b hb=>⟨h.1 b hb,fun e=>hv (e▸hb)⟩
theorem owns_apart {w:World} {base base':Nat} {e e':TypeId} {k k':Nat} {v v':Value} {n n':Nat} {xs xs':List Value} (h:w.ownsRow base e k v n xs) (h':w.ownsRow base' e' k' v' n' xs') (hne:e≠e'):∀ b,v.ownBlock=some b→v'.ownBlock≠some b:=by
 intro b hb hb'
 rcases h.2 with ⟨rfl,_⟩ | ⟨g,cap,cur,rfl,_,hg,_⟩
 ·simp [Value.ownBlock] at hb
 ·rcases h'.2 with ⟨rfl,_⟩ | ⟨g',cap',cur',rfl,_,hg',_⟩
  ·simp [Value.ownBlock] at hb'
  ·simp [Value.ownBlock] at hb hb'
   subst hb;subst hb'
   rw [hg] at hg'
   simp at hg'
   exact hne hg'.2
theorem BuildS.apart {β:Type} {base':Nat} {e':TypeId} {k':Nat} {v':Value} {R':World→List Value→β→Prop} {ys:List β} (h:BuildS w S base e k v R xs) (h':BuildS w S' base' e' k' v' R' ys) (hne:e≠e'):∀ b,v.ownBlock=some b→v'.ownBlock≠some b:=by
 obtain ⟨_,us,_,_,h3,_⟩:=h
 obtain ⟨_,us',_,_,h3',_⟩:=h'
 exact owns_apart h3 h3' hne
theorem BuildS.lit (w:World) (S:Nat→Prop) (us:List (List Value)) (xs:List α) (hb:base≤w.heap.size) (hl:us.length=xs.length) (hk:∀ u∈us,u.length=k) (hn:xs.length≤maxLen) (h:∀ (j:Nat) u x,us[j]?=some u→xs[j]?=some x→SafeS w S fun w=>R w u x) :
  BuildS (w.alloc (.cells us.flatten.toArray e)) (fun b=>S b∨b=w.heap.size) base e k (.slice (some ⟨w.heap.size,0,none⟩) xs.length xs.length) R xs:=by
 have hfl:us.flatten.length=xs.length*k:=by
  rw [← hl];clear hl hn h
  induction us with
  | nil=>simp
  | cons u us ih=>rw [List.flatten_cons,List.length_append,hk u (by simp),ih (fun u hu=>hk u (by simp [hu])),List.length_cons,Nat.succ_mul];omega
 refine ⟨fun b hb=>.inr (by simp [Value.ownBlock] at hb;exact hb.symm),us,hl,hk,?_,?_⟩
 ·have:=World.ownsRow_lit (e:=e) (size:=k) w us.flatten.toArray xs.length hb hn (by simpa using hfl)
  simpa using this
 ·intro j u x hu hx
  refine (h j u x hu hx).grow ((Ext.alloc w _).grownS S) ?_
  intro b hb
  rcases hb with hb | hb
  ·exact .inl hb
  ·exact .inr (by omega)
end
end Go.Proofs.YtjlkkofmojgipaaGreatDoor
