import Derived.Test.YtjlkkofmojgipaaGreatDoorYAO
import Derived.RangeFuncNested
import Derived.RangeFuncBound
import Derived.RangeFuncCalls
import Derived.RangeFuncLeaves
import Derived.Shelf.Abstract
import Derived.Shelf.RegionOpen
import Derived.WalkKit
import Derived.OwnWalkIn
import Derived.TacticsInMore
import Derived.LoopNIn
import Derived.LoopIn
import Derived.RangeFuncBox
import Derived.Test.YtjlkkofmojgipaaGreatDoorYAA
namespace Go.Proofs.YtjlkkofmojgipaaGreatDoor
set_option linter.unusedVariables false
set_option linter.unusedSimpArgs false
open Go.RowKit
def colsN (xss:List (List Int)):Nat:=(xss.headD []).length
theorem tabR_zero (n : Nat) : ∀ xss, tabR n xss = 0 → ∀ r ∈ xss, r.length = n ∧ r.length ≤ 12 ∧ ∀ x ∈ r, -1000000000 ≤ x ∧ x ≤ 1000000000
  | [], _, r, hr => by simp at hr
  | q :: l, h, r, hr => by
    unfold tabR at h
    split at h
    · cases h
    · split at h
      · split at h
        · cases h
        · rename_i h1 h2 h3
          rcases List.mem_cons.1 hr with rfl | hr
          · refine ⟨h2, by omega, fun x hx => ?_⟩
            rw [← fitB_iff]
            simp only [List.any_eq_true, Bool.not_eq_true', not_exists, not_and, Bool.not_eq_false] at h3
            exact h3 x hx
          · exact tabR_zero n l h r hr
      · cases h
theorem tabE_zero {xss:List (List Int)} (h:tabE xss=0):xss.length≤12∧∀ r∈xss,r.length=colsN xss∧r.length≤12∧∀ x∈r,-1000000000≤x∧x≤1000000000:=by
 unfold tabE at h
 split at h
 ·cases h
 ·exact ⟨by omega,tabR_zero _ xss h⟩
theorem rowsTo_matQ (xss:List (List Int)):rowsTo xss (fun _=>[]) xss.length=matQ xss:=by
 unfold rowsTo matQ
 apply List.ext_getElem
 ·simp
 ·intro i h1 h2
  simp only [List.length_map,List.length_range] at h1
  simp [h1]
set_option maxRecDepth 100000 in
set_option maxHeartbeats 1000000 in
theorem columns_any (xss : List (List Int)) (v : Value) (w : World) (h : Rows2 w v xss) :
    Calls Tryz.prog 106 #[v] w fun e w' => e = .returned (.int .i64 (colsN xss : Int)) ∧ w = w' := by
  obtain ⟨a, c, rfl, h1, h2, -, hc⟩ := inCell.open h
  clear h
  unfold maxLen at h2
  cases xss with
  | nil =>
    clear hc
    go_enter Tryz.func106, Tryz.ntmps106
    go_wp2
    go_ret
    exact ⟨rfl, rfl⟩
  | cons r l =>
    obtain ⟨b, off, rfl, hb, hcell⟩ := hc (by simp)
    obtain ⟨vx, hvx, hcx⟩ := hcell 0 r rfl
    obtain ⟨ax, cx, rfl, -, -, -, -, -⟩ := Ints.open hvx
    rw [Nat.add_zero] at hcx
    obtain ⟨m, hm⟩ : ∃ m, m = (r :: l).length := ⟨_, rfl⟩
    have hq : ((m : Int) == 0) = false := by rw [beq_eq_false_iff_ne, hm, List.length_cons]; omega
    have hpos : (0 : Int) < (m : Int) := by rw [hm, List.length_cons]; omega
    have HCN : Hid (colsN (r :: l) = r.length) := rfl
    rw [← hm] at h1 ⊢
    clear hc hcell hvx hm
    go_enter Tryz.func106, Tryz.ntmps106
    go_wp2
    go_ret
    rw [HCN.out]
    exact ⟨rfl, rfl⟩
set_option maxRecDepth 100000 in
set_option maxHeartbeats 1000000 in
theorem reduce_zero (v:Value) (w:World) (hv:∃ a n c,v=.slice a n c) :
  Calls Tryz.prog 109 #[v,.int .i64 0] w fun e w'=>e=.returned (.tuple #[.slice none 0 0,ratV 1])∧Ext w w':=by
 obtain ⟨a,n,c,rfl⟩:=hv
 obtain ⟨W1,hW1,hE1,hs1,hb1⟩:=box2 w (.string ⟨#[]⟩) (.string ⟨#[]⟩) 152
 have HE1:=Lib.hid hE1
 have HB1:Hid (∀ W,Ext W1 W→BlkR w.heap.size W):=fun W hW=>BlkR.ext ⟨_,_,hb1⟩ hW
 obtain ⟨r0,r1,rf⟩:=block2_cell hb1
 clear hE1 hb1 rf
 go_enter Tryz.func109,Tryz.ntmps109
 go_wp2_with fail
 refine (tone_any _).mono ?_
 rintro e w2 ⟨rfl,hE2⟩
 have HE2:=Lib.hid hE2
 obtain ⟨q0,q1,t0,t1,f0,f1⟩:=(HB1.out _ hE2).open
 have hbx:=(HB1.out _ hE2)
 rw [ratV_one]
 have HBQ:Hid (BoxQ ((w2.setCell ⟨w.heap.size,0,none⟩ (.string ⟨#[49]⟩)).setCell ⟨w.heap.size,1,none⟩ (.string ⟨#[49]⟩)) w.heap.size 1):=by
  have:=hbx.res (x:=.string ⟨#[49]⟩) (y:=.string ⟨#[49]⟩)
  unfold Hid BoxQ
  rw [this]
  show some (Obj.cells #[.string ⟨#[49]⟩,.string ⟨#[49]⟩] 152 (0,0))=some (Obj.cells #[.string (intB 1),.string (numB 1)] 152 (0,0))
  rw [intB_one,numB_one]
 have HX:Hid (Ext w ((w2.setCell ⟨w.heap.size,0,none⟩ (.string ⟨#[49]⟩)).setCell ⟨w.heap.size,1,none⟩ (.string ⟨#[49]⟩))):=ext_set2 (HE1.out.trans hE2) (Nat.le_refl _)
 clear hE2 hbx r0 r1
 go_wp2_with fail
 clear q0 q1 t0 t1 f0 f1
 refine wp_loop_once ?_
 obtain ⟨W3,hW3⟩:∃ W3,W3=((w2.setCell ⟨w.heap.size,0,none⟩ (.string ⟨#[49]⟩)).setCell ⟨w.heap.size,1,none⟩ (.string ⟨#[49]⟩)):=⟨_,rfl⟩
 rw [← hW3] at HBQ HX ⊢
 clear hW3
 obtain ⟨b0,b1,b2,b3⟩:=HBQ.out.cells
 rw [show (1:Rat).num=1 from rfl,intB_one] at b0
 rw [show (1:Rat).den=1 from rfl,numB_one] at b1
 have HSET:=Lib.hid ((HBQ.out.ext (Ext.drew W3)).set 1)
 have HX2:Hid (Ext w ((W3.drew.setCell ⟨w.heap.size,0,none⟩ (.string ⟨#[49]⟩)).setCell ⟨w.heap.size,1,none⟩ (.string ⟨#[49]⟩))):=ext_set2 (HX.out.trans (Ext.drew _)) (Nat.le_refl _)
 rw [show (1:Rat).num=1 from rfl,show (1:Rat).den=1 from rfl,intB_one,numB_one] at HSET
 go_wp2_with fail
 go_region
 all_goals
  go_wp2_with fail
  refine bodyPost_ret (results_tmp_cell (by rfl) _ _ w.heap.size 152 #[.string (intB 1),.string (numB 1)] (0,0) _ (.slice none 0 0) (by rfl) (by rfl) HSET.out Tryz.underlying152 (by rfl) (by kernel_rfl)) (by rfl) ⟨rfl,HX2.out⟩
theorem RowsO.toMat {e:TypeId} {w:World} {ob base:Nat} {u:Value} {tags:List (Nat×Nat)} {m:List (List Rat)} (h:RowsO ratK e w ob base u tags m) (hob:base≤ob) (hpos:0<m.length) :
  ∃ g cap,u=.slice (some ⟨g,0,none⟩) m.length cap∧MatQ w g tags m∧m.length≤cap∧cap≤9223372036854775807∧∀ b,blocksQ g tags b→base≤b:=by
 obtain ⟨g,cap,rfl,-⟩:=owns_shape h.own hpos
 obtain ⟨h1,h2,h3,h4⟩:=h.matQ hob
 exact ⟨g,cap,rfl,h1,h2,h3,h4⟩
theorem RowsO.form {α:Type} {K:RowKind α} {e:TypeId} {w:World} {ob base:Nat} {u:Value} {tags:List (Nat×Nat)} {m:List (List α)} (h:RowsO K e w ob base u tags m):∃ a n c,u=.slice a n c:=by
 rcases h.own.2 with ⟨rfl,hn⟩ | ⟨g,cap,cur,rfl,hb,hg,h1,h2,h3,h4⟩
 ·exact ⟨_,_,_,rfl⟩
 ·exact ⟨_,_,_,rfl⟩
structure RedOk (wb w1 w':World) (u v:Value) (tags0:List (Nat×Nat)) (m:List (List Rat)) (n:Nat):Prop where
 lead:OwnI w1.heap.size w' v (redTo m n).lead
 ext:Ext wb w'
 low:wb.heap.size≤w1.heap.size
 keep:GrownS (fun b=>b∈tags0.map (·.1)∨u.ownBlock=some b) w1 w'
 mat:m≠[]→∃ g tags cap,u=.slice (some ⟨g,0,none⟩) m.length cap∧MatQ w' g tags (redTo m n).m∧m.length≤cap∧cap≤9223372036854775807∧∀ b,blocksQ g tags b→wb.heap.size≤b
theorem reduceRows_any (m:List (List Rat)) (n C:Nat) (u:Value) (tags:List (Nat×Nat)) (wb w1:World) (hO:RowsO ratK 197 w1 wb.heap.size wb.heap.size u tags m) (hwb:Ext wb w1) (hC:Rect C m) (hn:n≤C) (hC2:C≤1000) (hl:m.length≤1000)
  (hok:∀ c,c<n→AllRS 2500 (redTo m c).m∧RS 9000 (redTo m c).det) (ht:Pow10 wb) (hz:m=[]→n=0) :
  Calls Tryz.prog 109 #[u,.int .i64 (n:Int)] w1 fun e w'=>∃ v,e=.returned (.tuple #[v,ratV (redTo m n).det])∧RedOk wb w1 w' u v tags m n:=by
 by_cases hm:m=[]
 ·obtain rfl:=hz hm
  refine (reduce_zero u w1 hO.form).mono ?_
  rintro e w' ⟨rfl,hE⟩
  exact ⟨_,rfl,OwnI.nil _ _,hwb.trans hE,hwb.size,hE.grownS _,fun h=>absurd hm h⟩
 ·obtain ⟨g,cap,rfl,h1,h2,h3,h4⟩:=hO.toMat (Nat.le_refl _) (List.length_pos_iff.2 hm)
  refine (reduce_any m g cap n C tags wb w1 h1 hC hn hC2 hl h2 h3 hok hwb ht h4).mono ?_
  rintro e w' ⟨v,tags',rfl,k1,k2,k3,k4⟩
  exact ⟨v,rfl,k1,Below.trans hwb (k4.belowE (B:=wb.heap.size) h4 hwb.size),hwb.size,k4.weak (fun b _ hb=>by
   rcases List.mem_cons.1 hb with rfl | hb
   ·exact .inr rfl
   ·exact .inl hb),fun _=>⟨g,tags',cap,rfl,k2,h2,h3,fun b hb=>h4 b ((k3 b).1 hb)⟩⟩
end Go.Proofs.YtjlkkofmojgipaaGreatDoor
namespace Go.Proofs.YtjlkkofmojgipaaGreatDoor
set_option linter.unusedVariables false
set_option linter.unusedSimpArgs false
open Go.RowKit Go.Shelf
structure KeepT (T:TypeId) (A B:World):Prop where
 size:A.heap.size≤B.heap.size
 same:∀ (b:Nat) C fr,A.heap[b]?=some (.cells C T fr)→B.heap[b]?=some (.cells C T fr)
theorem KeepT.refl (T:TypeId) (A:World):KeepT T A A:=⟨Nat.le_refl _,fun _ _ _ h=>h⟩
theorem KeepT.trans {T:TypeId} {A B C:World} (h:KeepT T A B) (k:KeepT T B C):KeepT T A C:=⟨Nat.le_trans h.size k.size,fun b C fr hb=>k.same b C fr (h.same b C fr hb)⟩
def AbT {β:Type} (B:Nat) (T:TypeId) (J:β→World→Prop):Prop :=
 ∀ s W W' row,J s W→W.grownBy W' row→(∀ r,row=some r→B≤r∧∃ o:Obj,W.heap[r]?=some o∧(o.isCells=false∨∃ C fr,o=.cells C T fr))→J s W'
def AbC {β:Type} (B:Nat) (T:TypeId) (J:β→World→Prop):Prop :=
 ∀ s W W' row,J s W→W.grownBy W' row→(∀ r,row=some r→B≤r∧∃ C fr,W.heap[r]?=some (.cells C T fr))→J s W'
structure SetAt (T:TypeId) (W:World) (v:Value) (s:List Nat):Prop where
 at_:∃ g C fr,v=.slice (some ⟨g,0,none⟩) s.length s.length∧W.heap[g]?=some (.cells C T fr)∧∀ (j:Nat) x,s[j]?=some x→W.cell? ⟨g,j,none⟩=some (.int .i64 (x:Int))
theorem SetAt.keep {T:TypeId} {W W':World} {v:Value} {s:List Nat} (h:SetAt T W v s) (hk:KeepT T W W'):SetAt T W' v s:=by
 obtain ⟨g,C,fr,h1,h2,h3⟩:=h.at_
 refine ⟨g,C,fr,h1,hk.same g C fr h2,fun j x hx=>?_⟩
 have hb:W'.heap[g]?=W.heap[g]?:=(hk.same g C fr h2).trans h2.symm
 have:=h3 j x hx
 unfold World.cell? at this ⊢
 rw [hb];exact this
def SetsGive (F:Fence) (n:Nat) (P:Program) (g:Nat) (lb:Array Value) (T:TypeId) (L:List (List Nat)) (w:World):Prop :=
 ∀ (l:Nat) (J:Nat→World→Prop) (W:World),Below w.heap.size w W→AbC W.heap.size T J →
  (∀ i s v W1,L[i]?=some s→J i W1→SetAt T W1 v s→YieldAt F (n-1) P l #[v] W1 fun e W'=>e=.returned (.bool true)∧J (i+1) W'∧KeepT T W1 W') →
  J 0 W→CallsIn F n P g (#[.func (.yield l) #[] #[]]++lb) W fun e W'=>(∃ v,e=.returned v)∧J L.length W'
theorem SetsGive.inRound {F:Fence} {n:Nat} {P:Program} {g:Nat} {lb:Array Value} {T:TypeId} {L:List (List Nat)} {w:World} (l:Nat) (h:SetsGive F n P g lb T L w):SetsGive (F.inRound l) n P g lb T L w:=h
def recL (fn:FuncId) (tmps:Array Value) (ps:Array Tmp) (assign body:Code) (dd:Nat) (st:LoopState):Loop:={ state:=st,pending:=none,fn:=fn,tmps:=tmps,params:=ps,assign:=assign,body:=body,defers:=dd }
theorem keeps_put {B:Nat} {T:TypeId} {W:World} {l:Nat} {r:Loop} (hl:W.heap[l]?=some (.loop r)) (o:Obj):KeepT T W (W.putObj l o) :=
 ⟨by simp,fun b C fr hb=>by
  rw [World.putObj_heap_other]
  ·exact hb
  ·intro e;subst e;rw [hl] at hb;simp at hb⟩
theorem keeps_cells {T:TypeId} {W W':World} {row:Option Nat} (hg:W.grownBy W' row) {k:Nat} {o:Obj} (hk:W.heap[k]?=some o) (ho:o.isCells=false) (hr:∀ r,row=some r→∃ C fr,W.heap[r]?=some (.cells C T fr)):W'.heap[k]?=some o:=by
 refine (hg.block k (Array.getElem?_eq_some_iff.1 hk).1 fun e=>?_).trans hk
 obtain ⟨C,fr,h⟩:=hr k e.symm
 rw [hk] at h
 cases h
 simp [Obj.isCells] at ho
def RoundsOk (F:Fence) (n:Nat) (P:Program) (l B:Nat) (T:TypeId) (L:List (List Nat)) (I:Nat→World→Prop) (ps:Array Tmp) (tmps:Array Value) (assign body:Code):Prop :=
 ∀ i s v W,L[i]?=some s→I i W→SetAt T W v s→(∃ r,W.heap[l]?=some (.loop r)) →
  assign.wpIn (F.inRound l) n P (Exit.then (fun a' Wa=>KeepsFrom B W Wa∧KeepT T W Wa ∧
   ∀ Wb,Wa.grownBy Wb (some l)→(∃ r,Wa.heap[l]?=some (.loop r))→(∃ r,Wb.heap[l]?=some (.loop r))→KeepT T Wa Wb →
    body.wpIn (F.inRound l) n P (fun e _ W3=>e=.normal∧KeepsFrom B Wb W3∧KeepT T Wb W3∧I (i+1) W3) a' Wb) (fun _ _ _=>False))
   { tmps:=(ps.zip #[v]).foldl (fun t (p,u)=>t.setIfInBounds p u) tmps,defers:=[] } W
theorem rounds_core {F : Fence} {n : Nat} {P : Program} {gf : Nat} {lb : Array Value} {T : TypeId} {L : List (List Nat)} {w0 W1 : World} {l B dd : Nat} {fn : FuncId} {tmps : Array Value} {ps : Array Tmp} {assign body : Code} {I : Nat → World → Prop}
    (hfn : F.fn fn) (hseq : SetsGive F n P gf lb T L w0) (hb1 : Below w0.heap.size w0 W1) (hps : ps.size = 1) (hB : B ≤ l) (hB1 : B ≤ W1.heap.size) (hl : W1.heap[l]? = some (.loop (recL fn tmps ps assign body dd .ready)))
    (eD : Option Nat) (hD : ∀ D, eD = some D → D ≠ l ∧ B ≤ D ∧ W1.heap[D]? = some (.deferred (some []))) (hI : AbT B T I) (h0 : I 0 W1)
    (hround : RoundsOk F (n - 1) P l B T L I ps tmps assign body) :
    CallsIn F n P gf (#[.func (.yield l) #[] #[]] ++ lb) W1 fun e W' => (∃ v, e = .returned v) ∧ I L.length W' ∧ W'.heap[l]? = some (.loop (recL fn tmps ps assign body dd .ready)) ∧ ∀ D, eD = some D → W'.heap[D]? = some (.deferred (some [])) := by
  refine hseq l (fun i W => I i W ∧ W.heap[l]? = some (.loop (recL fn tmps ps assign body dd .ready)) ∧ ∀ D, eD = some D → W.heap[D]? = some (.deferred (some []))) W1 hb1 ?_ ?_ ⟨h0, hl, fun D e => (hD D e).2.2⟩
  · rintro i A A' row ⟨k1, k2, k3⟩ hg hr
    refine ⟨hI i A A' row k1 hg (fun r e => ?_), keeps_cells hg k2 rfl (fun r e => (hr r e).2), fun D e => keeps_cells hg (k3 D e) rfl (fun r e => (hr r e).2)⟩
    obtain ⟨h1, C, fr, h2⟩ := hr r e
    exact ⟨Nat.le_trans hB1 h1, _, h2, .inr ⟨C, fr, rfl⟩⟩
  · rintro i s v W hs ⟨k1, k2, k3⟩ hv
    have hy := run_yield (P := P) (args := #[v]) k2 (by simp [recL, hps])
    refine ⟨fn, _, assign, body, hy, roundIn_of_wpIn hfn (wpIn_mono (hround i s v W hs k1 hv ⟨_, k2⟩) ?_)⟩
    rintro e a' Wa hp
    cases e with
    | normal =>
      obtain ⟨p1, p2, p3⟩ := hp
      have m2 := p1.same _ _ hB k2 rfl
      have m3 : ∀ D, eD = some D → Wa.heap[D]? = some (.deferred (some [])) := fun D e => p1.same _ _ (hD D e).2.1 (k3 D e) rfl
      have hlt : l < Wa.heap.size := (Array.getElem?_eq_some_iff.1 m2).1
      refine ⟨_, run_beginRound m2 rfl, ?_⟩
      have b2 : (Wa.putObj l (.loop { recL fn tmps ps assign body dd .ready with state := .busy })).heap[l]? = some (.loop { recL fn tmps ps assign body dd .ready with state := .busy }) := World.putObj_heap_same hlt
      have b3 : ∀ D, eD = some D → (Wa.putObj l (.loop { recL fn tmps ps assign body dd .ready with state := .busy })).heap[D]? = some (.deferred (some [])) := fun D e => (World.putObj_heap_other (hD D e).1).trans (m3 D e)
      have bk := keeps_put (B := B) (T := T) m2 (.loop { recL fn tmps ps assign body dd .ready with state := .busy })
      refine wpIn_mono (p3 _ (grownBy_putObj' Wa l _) ⟨_, m2⟩ ⟨_, b2⟩ bk) ?_
      rintro e a3 W3 ⟨rfl, q1, q2, q3⟩
      have c2 := q1.same _ _ hB b2 rfl
      have c3 : ∀ D, eD = some D → W3.heap[D]? = some (.deferred (some [])) := fun D e => q1.same _ _ (hD D e).2.1 (b3 D e) rfl
      have hr := run_endRound (P := P) none c2
      have hlt3 : l < W3.heap.size := (Array.getElem?_eq_some_iff.1 c2).1
      refine ⟨_, _, hr, rfl, ⟨?_, ?_, fun D e => (World.putObj_heap_other (hD D e).1).trans (c3 D e)⟩, ?_⟩
      · exact hI _ _ _ _ q3 (grownBy_putObj' W3 l _) (fun r e => by cases e; exact ⟨hB, _, c2, .inl rfl⟩)
      · rw [World.putObj_heap_same hlt3]; rfl
      · exact p2.trans (bk.trans (q2.trans (keeps_put (B := B) c2 _)))
    | _ => exact hp.elim
theorem wpIn_rangeSets {F:Fence} {n:Nat} {P:Program} {g:Operand} {ps:Array Tmp} {assign body:Code} {Q:Exit→Act→World→Prop} {a:Act} {w:World}
  (hro:F.round=none) (h1:1≤n) {gf:Nat} {lb:Array Value} (hg:a.eval g=.func (.func gf) #[] lb) (hFg:F.fn gf) (eg:∀ args w,(callFunc gf args).run P w=.ok (.enter gf args) w)
  {T:TypeId} {L:List (List Nat)} {w0:World} (hseq:SetsGive F (n-1) P gf lb T L w0) (hb0:Below w0.heap.size w0 w) (hps:ps.size=1) (I:Nat→World→Prop) (hI:AbT w.heap.size T I) (h0:I 0 w)
  (hround:RoundsOk F (n-1-1) P (w.heap.size+1) w.heap.size T L I ps a.tmps assign body)
  (hdone:∀ W,I L.length W→W.heap[w.heap.size]?=some (.deferred (some []))→Q .normal { a with defers:={ target:=.collected w.heap.size,args:=#[] }::a.defers } W) :
  (Code.rangeFunc g ps assign body).wpIn F n P Q a w:=by
 refine wpIn_rangeFunc ?_
 intro fn hfn
 rw [hro]
 obtain ⟨W1,hW1⟩:∃ W1,(w.alloc (.deferred (some []))).alloc (.loop (recL fn a.tmps ps assign body w.heap.size .ready))=W1:=⟨_,rfl⟩
 have hL1:W1.heap[w.heap.size+1]?=some (.loop (recL fn a.tmps ps assign body w.heap.size .ready)):=by
  rw [← hW1];have:=World.alloc_heap_new (w.alloc (.deferred (some []))) (.loop (recL fn a.tmps ps assign body w.heap.size .ready));rwa [World.size_alloc] at this
 have hK1:W1.heap[w.heap.size]?=some (.deferred (some [])):=by
  rw [← hW1];exact (Below.heap_alloc _ _ _ (by simp)).trans (World.alloc_heap_new w _)
 have hx1:Below w.heap.size w W1:=by
  rw [← hW1];exact ((Below.refl _ w).alloc (Nat.le_refl _) _).alloc (by simp) _
 have hI1:I 0 W1:=hI 0 w W1 none h0 ⟨hx1.os,hx1.tape,hx1.output,hx1.size,fun k hk _=>hx1.block k hk⟩ (fun r e=>by cases e)
 refine ⟨w.heap.size+1,[{ target:=.collected w.heap.size,args:=#[] }],W1,{ target:=.fn (.func gf) lb,args:=#[.func (.yield (w.heap.size+1)) #[] #[]] },W1,gf,
  #[.func (.yield (w.heap.size+1)) #[] #[]]++lb,W1,?_,?_,?_,?_,fun _=>h1,?_⟩
 ·rw [← hW1];exact run_enterLoop_outer _ _ _ _ _
 ·simp only [resolve,hg]
  simp [go_sem]
 ·intro f' hf';simp [Target.leads] at hf';subst hf';exact hFg
 ·simp [invoke,go_sem,eg]
 ·refine (rounds_core hfn hseq (hb0.trans (hx1.mono hb0.size)) hps (by omega) hx1.size hL1 (some w.heap.size) (fun D e=>by cases e;exact ⟨by omega,Nat.le_refl _,hK1⟩) hI hI1 hround).mono ?_
  rintro e W2 ⟨⟨v,rfl⟩,hi,hl,hk⟩
  refine ⟨none,_,by have:=run_endLoop (P:=P) hl (by simp [recL]);exact this,hdone _ (hI _ _ _ _ hi (grownBy_putObj' W2 _ _) (fun r e=>by cases e;exact ⟨by omega,_,hl,.inl rfl⟩)) ((World.putObj_heap_other (by omega)).trans (hk _ rfl))⟩
theorem wpIn_rangeSetsN {F:Fence} {n:Nat} {P:Program} {g:Operand} {ps:Array Tmp} {assign body:Code} {Q:Exit→Act→World→Prop} {a:Act} {w:World}
  {l₀:Nat} {r₀:Loop} (hro:F.round=some l₀) (hl₀:w.heap[l₀]?=some (.loop r₀)) (h1:1≤n) {gf:Nat} {lb:Array Value} (hg:a.eval g=.func (.func gf) #[] lb) (hFg:F.fn gf) (eg:∀ args w,(callFunc gf args).run P w=.ok (.enter gf args) w)
  {T:TypeId} {L:List (List Nat)} {w0:World} (hseq:SetsGive F (n-1) P gf lb T L w0) (hb0:Below w0.heap.size w0 w) (hps:ps.size=1) (I:Nat→World→Prop) (hI:AbT w.heap.size T I) (h0:I 0 w)
  (hround:RoundsOk F (n-1-1) P w.heap.size w.heap.size T L I ps a.tmps assign body)
  (hdone:∀ W,I L.length W→Q .normal a W) :
  (Code.rangeFunc g ps assign body).wpIn F n P Q a w:=by
 refine wpIn_rangeFunc ?_
 intro fn hfn
 rw [hro]
 obtain ⟨W1,hW1⟩:∃ W1,w.alloc (.loop (recL fn a.tmps ps assign body r₀.defers .ready))=W1:=⟨_,rfl⟩
 have hL1:W1.heap[w.heap.size]?=some (.loop (recL fn a.tmps ps assign body r₀.defers .ready)):=by rw [← hW1];exact World.alloc_heap_new w _
 have hx1:Below w.heap.size w W1:=by
  rw [← hW1];exact (Below.refl _ w).alloc (Nat.le_refl _) _
 have hI1:I 0 W1:=hI 0 w W1 none h0 ⟨hx1.os,hx1.tape,hx1.output,hx1.size,fun k hk _=>hx1.block k hk⟩ (fun r e=>by cases e)
 refine ⟨w.heap.size,[],W1,{ target:=.fn (.func gf) lb,args:=#[.func (.yield w.heap.size) #[] #[]] },W1,gf,
  #[.func (.yield w.heap.size) #[] #[]]++lb,W1,?_,?_,?_,?_,fun _=>h1,?_⟩
 ·rw [← hW1];exact run_enterLoop_inner hl₀ _ _ _ _ _
 ·simp only [resolve,hg]
  simp [go_sem]
 ·intro f' hf';simp [Target.leads] at hf';subst hf';exact hFg
 ·simp [invoke,go_sem,eg]
 ·refine (rounds_core hfn hseq (hb0.trans (hx1.mono hb0.size)) hps (Nat.le_refl _) hx1.size hL1 none (fun D e=>by cases e) hI hI1 hround).mono ?_
  rintro e W2 ⟨⟨v,rfl⟩,hi,hl,-⟩
  refine ⟨none,_,by have:=run_endLoop (P:=P) hl (by simp [recL]);exact this,hdone _ (hI _ _ _ _ hi (grownBy_putObj' W2 _ _) (fun r e=>by cases e;exact ⟨Nat.le_refl _,_,hl,.inl rfl⟩))⟩
end Go.Proofs.YtjlkkofmojgipaaGreatDoor
