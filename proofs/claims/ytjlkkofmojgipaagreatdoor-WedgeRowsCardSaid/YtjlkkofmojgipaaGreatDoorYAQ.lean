import Derived.Test.YtjlkkofmojgipaaGreatDoorYAP
import Derived.Test.YtjlkkofmojgipaaGreatDoorYAF
import Derived.Test.YtjlkkofmojgipaaGreatDoorYAA
import Derived.Sort.QuietIn
import Derived.Test.YtjlkkofmojgipaaGreatDoorYAM
import Derived.Test.YtjlkkofmojgipaaGreatDoorYAK
namespace Go.Proofs.YtjlkkofmojgipaaGreatDoor
set_option linter.unusedVariables false
set_option linter.unusedSimpArgs false
open Go.RowKit Go.Shelf
attribute [local go_sem] Oper.semAt_some
theorem wpListIn_make_full {F:Fence} {n:Nat} {P:Program} (w:World) {ops:Array Oper} {rest:List Oper} {o:Oper} {a:Act} {Q:Exit→Act→World→Prop}
  (hg:o.guard=none) (l c:Operand) (t:TypeId) (hop:o.op=Op.makeSlice t l c)
  (base:Nat) (e:TypeId) (i:TypeInfo) (z:Value) (size:Nat) (h1:P.underlying t=some (.slice e)) (h2:P.info? e=some i) (h3:i.zero=some z) (h4:i.size=size)
  (kl kc:IntKind) (L C:Int) (m:Nat) (hl:a.eval l=.int kl L) (hc:a.eval c=.int kc C) (hL:L=(m:Int)) (hC:C=(m:Int)) (b2:i.bytes*m≤281474976710656) (b3:m≤maxLen) (b4:base≤w.heap.size)
  (hK:∀ w',w'.ownsRow base e size (.slice (some ⟨w.heap.size,0,none⟩) m m) m (madeCells z.cells (m*size)).toList→w.grownBy w' none→wpListIn F n P ops Q rest (a.put o.dst (.slice (some ⟨w.heap.size,0,none⟩) m m)) w') :
  wpListIn F n P ops Q (o::rest) a w:=by
 refine wpListIn_plain hg fun K hK'=>?_
 obtain ⟨w',hrun,r1,r2⟩:=run_make_full (P:=P) w base t e i z size h1 h2 h3 h4 kl kc m b2 b3 b4
 subst hL
 subst hC
 unfold Oper.wpIn
 refine ⟨?_,?_⟩
 ·simp [Oper.about,hop]
 ·rw [Oper.semAt_plain F _ _ (by rw [hop];intro c hc';cases hc')]
  simp [execOp,hop,hl,hc,hrun,Result.andThen]
  exact hK' _ _ (hK w' r1 r2)
def natsV (l:List Nat):List Value:=l.map fun x:Nat=>Value.int .i64 (x:Int)
structure ItS (J:Nat→World→Prop) (i:Nat) (B g k N B1 B2:Nat) (wr:World) (cur:List Nat):Prop where
 j:J i wr
 own:wr.ownsRow B 3 1 (.slice (some ⟨g,0,none⟩) k k) k (natsV cur)
 b1:Boxed wr B1 3 (.int .i64 (k:Int))
 b2:Boxed wr B2 3 (.int .i64 (N:Int))
 lt1:B1<B
 lt2:B2<B
theorem ItS.len {J:Nat→World→Prop} {i B g k N B1 B2:Nat} {wr:World} {cur:List Nat} (h:ItS J i B g k N B1 B2 wr cur):cur.length=k:=by
 have:=h.own.1
 unfold natsV at this
 rw [List.length_map] at this
 omega
theorem ItS.block {J:Nat→World→Prop} {i B g k N B1 B2:Nat} {wr:World} {cur:List Nat} (h:ItS J i B g k N B1 B2 wr cur):∃ C,wr.heap[g]?=some (.cells C 3 (0,0))∧B≤g:=by
 rcases h.own.2 with ⟨hv,_⟩ | ⟨g',cap,C,hv,hb,hg,_⟩
 ·simp at hv
 ·simp only [Value.slice.injEq,Option.some.injEq,Addr.mk.injEq] at hv
  obtain ⟨⟨rfl,-,-⟩,-,-⟩:=hv
  exact ⟨C,hg,hb⟩
theorem ItS.cell {J:Nat→World→Prop} {i B g k N B1 B2:Nat} {wr:World} {cur:List Nat} (h:ItS J i B g k N B1 B2 wr cur) {j x:Nat} (hx:cur[j]?=some x):wr.cell? ⟨g,j,none⟩=some (.int .i64 (x:Int))∧wr.frozen? ⟨g,j,none⟩=false:=by
 have hj:=(List.getElem?_eq_some_iff.1 hx).1
 have hl:=h.len
 exact ⟨(h.own.cellAt j (by omega)).trans (by simp [natsV,hx]),h.own.frozenAt j⟩
theorem ItS.set {J:Nat→World→Prop} {i B g k N B1 B2:Nat} {wr:World} {cur:List Nat} (h:ItS J i B g k N B1 B2 wr cur) (hJ:AbC B 3 J) (j x:Nat):ItS J i B g k N B1 B2 (wr.setCell ⟨g,j,none⟩ (.int .i64 (x:Int))) (cur.set j x):=by
 obtain ⟨C,hC,hB⟩:=h.block
 have hg:=grown_setCell wr g j (.int .i64 (x:Int))
 have h1:=h.lt1;have h2:=h.lt2
 refine ⟨hJ i wr _ _ h.j hg (fun r e=>by cases e;exact ⟨hB,C,_,hC⟩),?_,h.b1.kept hg (fun e=>by simp at e;omega),h.b2.kept hg (fun e=>by simp at e;omega),h.lt1,h.lt2⟩
 unfold natsV
 rw [List.map_set]
 exact (h.own.stored j _).1
theorem ItS.setAt {J:Nat→World→Prop} {i B g k N B1 B2:Nat} {wr:World} {cur:List Nat} (h:ItS J i B g k N B1 B2 wr cur):SetAt 3 wr (.slice (some ⟨g,0,none⟩) k k) cur:=by
 obtain ⟨C,hC,hB⟩:=h.block
 have hl:=h.len
 exact ⟨g,C,(0,0),by rw [hl],hC,fun j x hx=>(h.cell hx).1⟩
theorem ItS.round {J:Nat→World→Prop} {i B g k N B1 B2:Nat} {wr w':World} {cur:List Nat} (h:ItS J i B g k N B1 B2 wr cur) (hj:J (i+1) w') (hk:KeepT 3 wr w'):ItS J (i+1) B g k N B1 B2 w' cur:=by
 refine ⟨hj,⟨h.own.1,?_⟩,hk.same _ _ _ h.b1,hk.same _ _ _ h.b2,h.lt1,h.lt2⟩
 rcases h.own.2 with h' | ⟨g',cap,C,hv,hb,hg,rest⟩
 ·exact .inl h'
 ·exact .inr ⟨g',cap,C,hv,hb,hk.same _ _ _ hg,rest⟩
theorem ItS.drawn {J:Nat→World→Prop} {i B g k N B1 B2:Nat} {wr:World} {cur:List Nat} (h:ItS J i B g k N B1 B2 wr cur) (hJ:AbC B 3 J) (n:Nat):ItS J i B g k N B1 B2 (wr.drewN n) cur:=by
 have hg:wr.grownBy (wr.drewN n) none:=(Ext.drewN wr n).grown none
 exact ⟨hJ i wr _ none h.j hg (fun r e=>by cases e),h.own.kept hg (by simp [Value.ownBlock]),h.b1.kept hg (by simp),h.b2.kept hg (by simp),h.lt1,h.lt2⟩
def encW (w:World) (g k:Nat):Nat:=encS ((List.range k).map fun j=>match w.cell? ⟨g,j,none⟩ with | some (.int _ x)=>x.toNat | _=>0)
theorem ItS.enc {J:Nat→World→Prop} {i B g k N B1 B2:Nat} {wr:World} {cur:List Nat} (h:ItS J i B g k N B1 B2 wr cur):encW wr g k=encS cur:=by
 unfold encW
 congr 1
 have hl:=h.len
 apply List.ext_getElem
 ·simp [hl]
 ·intro j h1 h2
  rw [List.getElem_map,List.getElem_range,(h.cell (List.getElem?_eq_getElem h2)).1]
  simp
def initS (k i:Nat):List Nat:=List.range i++List.replicate (k-i) 0
theorem initS_set {k i:Nat} (h:i<k):(initS k i).set i i=initS k (i+1):=by
 unfold initS
 rw [List.set_append_right i i (by simp),List.length_range,show i-i=0 by omega,show k-i=(k-(i+1))+1 by omega,List.replicate_succ,List.set_cons_zero,List.range_succ,List.append_assoc]
 rfl
theorem initS_get {k i:Nat} (h:i<k):(initS k i)[i]?=some 0:=by
 unfold initS
 rw [List.getElem?_append_right (by simp),List.length_range,show i-i=0 by omega,show k-i=(k-(i+1))+1 by omega,List.replicate_succ]
 rfl
theorem initS_all (k:Nat):initS k k=List.range k:=by simp [initS]
def midS (s:List Nat) (k i j:Nat):List Nat:=s.take i++((List.range (j-i)).map fun q=>s.getD i 0+1+q)++s.drop j
theorem midS_len {s:List Nat} {k i j:Nat} (hs:s.length=k) (hij:i≤j) (hj:j≤k):(midS s k i j).length=k:=by
 unfold midS;simp [hs];omega
theorem midS_start {s:List Nat} {k i:Nat} (hs:s.length=k) (hi:i<k):s.set i (s.getD i 0+1)=midS s k i (i+1):=by
 unfold midS
 rw [show i+1-i=1 by omega]
 apply List.ext_getElem?
 intro q
 rw [List.getElem?_set]
 by_cases e:i=q
 ·subst e
  rw [if_pos rfl,if_pos (by omega),List.append_assoc,List.getElem?_append_right (by simp;omega),List.length_take,show i-min i s.length=0 by omega]
  rfl
 ·rw [if_neg e,List.append_assoc]
  by_cases hq:q<i
  ·rw [List.getElem?_append_left (by simp;omega),List.getElem?_take,if_pos hq]
  ·rw [List.getElem?_append_right (by simp;omega),List.length_take,show q-min i s.length=(q-i-1)+1 by omega]
   simp [List.getElem?_drop]
   congr 1
   omega
theorem midS_get {s:List Nat} {k i j:Nat} (hs:s.length=k) (hij:i<j) (hj:j≤k):(midS s k i j)[j-1]?=some (s.getD i 0+(j-i)):=by
 unfold midS
 rw [List.append_assoc,List.getElem?_append_right (by simp;omega),List.length_take,List.getElem?_append_left (by simp;omega),show j-1-min i s.length=j-i-1 by omega,List.getElem?_map,List.getElem?_range (by omega)]
 simp;omega
theorem midS_old {s:List Nat} {k i j:Nat} (hs:s.length=k) (hij:i<j) (hj:j<k):∃ x,(midS s k i j)[j]?=some x:=by
 have:=midS_len (s:=s) (k:=k) (i:=i) (j:=j) hs (by omega) (by omega)
 exact ⟨_,List.getElem?_eq_getElem (by omega)⟩
theorem midS_set {s:List Nat} {k i j:Nat} (hs:s.length=k) (hij:i<j) (hj:j<k):(midS s k i j).set j (s.getD i 0+(j-i)+1)=midS s k i (j+1):=by
 unfold midS
 have h1:(s.take i++((List.range (j-i)).map fun q=>s.getD i 0+1+q)).length=j:=by simp;omega
 rw [List.set_append_right _ _ (by omega),h1,show j-j=0 by omega,List.drop_eq_getElem_cons (by omega),List.set_cons_zero,show j+1-i=(j-i)+1 by omega,List.range_succ,List.map_append,List.append_assoc,List.append_assoc,List.append_assoc]
 simp;omega
theorem midS_end {s:List Nat} {n k i:Nat} (hs:s.length=k) (ht:topI n k s k=some i):nxtS n k s=some (midS s k i k):=by
 unfold nxtS midS
 rw [ht,List.drop_eq_nil_of_le (by omega),List.append_nil]
set_option maxRecDepth 100000 in
set_option maxHeartbeats 4000000 in
theorem sets1_in (n : Nat) (hn : 1 ≤ n) (N k : Nat) (hkN : k ≤ N) (hN : N ≤ 12) (L : List (List Nat)) (hL : SetsS N k L) (B1 B2 : Nat) (w : World) (h1 : Boxed w B1 3 (.int .i64 (k : Int))) (h2 : Boxed w B2 3 (.int .i64 (N : Int))) :
    SetsGive Fence.wide n Tryz.prog 158 #[.pointer (some ⟨B1, 0, none⟩), .pointer (some ⟨B2, 0, none⟩)] 3 L w := by
  intro l J W hW hJ hY h0
  obtain ⟨i0, hi, hz0, hz1, hz2⟩ := info_parts infoInt
  have HI := Lib.hid hi; have HZ0 := Lib.hid hz0; have HZ1 := Lib.hid hz1; have HZ2 := Lib.hid hz2
  have hb1 : Boxed W B1 3 (.int .i64 (k : Int)) := (hW.block B1 h1.lt).trans h1
  have hb2 : Boxed W B2 3 (.int .i64 (N : Int)) := (hW.block B2 h2.lt).trans h2
  have HB1 := Lib.hid hb1; have HB2 := Lib.hid hb2; have HJ := Lib.hid hJ; have HY := Lib.hid hY; have H0 := Lib.hid h0; have HL := Lib.hid hL
  have c1 := hb1.cell
  clear hi hz0 hz1 hz2 h1 h2 hb1 hb2 hJ hY h0 hW
  refine callsIn_of_wp Tryz.func158 rfl trivial ?_ rfl
  simp only [Tryz.ntmps158, List.size_toArray, List.length_cons, List.length_nil, Nat.reduceAdd, Nat.reduceSub, Array.replicate_succ, Array.replicate_zero, List.push_toArray, List.append_toArray, List.nil_append, List.cons_append]
  gi_wp2_with (gi_at_make; refine wpListIn_make_full _ rfl _ _ 26 rfl W.heap.size 3 i0 (.int .i64 0) 1 Tryz.underlying26 HI.out HZ0.out HZ1.out _ _ _ _ k rfl rfl rfl rfl ?c1 ?c2 ?c3 ?_)
  any_goals (first | (rw [HZ2.out]; omega) | (unfold maxLen; omega) | exact Nat.le_refl _)
  intro w3 hown hgrow
  rw [made_ints] at hown
  have HS0 : Hid (ItS J 0 W.heap.size W.heap.size k N B1 B2 w3 (initS k 0)) := by
    refine ⟨HJ.out 0 W w3 none H0.out hgrow (fun r e => by cases e), ?_, HB1.out.kept hgrow (by simp), HB2.out.kept hgrow (by simp), HB1.out.lt, HB2.out.lt⟩
    have e : natsV (initS k 0) = (List.replicate (k * 1) (0 : Int)).map (Value.int .i64) := by simp [natsV, initS]
    rw [e]; simpa using hown
  clear hown hgrow c1
  gi_wp2_with fail
  gi_loopw [12] (fun t wr => ∃ i : Nat, i ≤ k ∧ t = .int .i64 i ∧ Hid (ItS J 0 W.heap.size W.heap.size k N B1 B2 wr (initS k i))) (fun t _ => k - (intOf t).toNat)
  case atStart => exact ⟨0, by omega, rfl, HS0.out⟩
  case round =>
    obtain ⟨i, hik, rfl, HS⟩ := hrel
    by_cases hlt : i < k
    · obtain ⟨c0, f0⟩ := HS.out.cell (initS_get hlt)
      have HN := Lib.hid (HS.out.set HJ.out i i)
      rw [initS_set hlt] at HN
      gi_wp2_with fail
      go_roundw
      case rel => exact ⟨i + 1, by omega, by go_num, HN.out⟩
      case measure => simp [intOf]; omega
    · obtain rfl : i = k := by omega
      rw [initS_all] at HS
      clear HS0
      gi_wp2_with fail
      gi_loopw [6] (fun t wr => ∃ (q : Nat) (s : List Nat), L[q]? = some s ∧ Hid (ItS J q W.heap.size W.heap.size i N B1 B2 wr s)) (fun _ wr => 1000000000000000000 - encW wr W.heap.size i)
      case atStart => exact ⟨0, _, HL.out.head, HS.out⟩
      case round =>
        obtain ⟨q, s, hq, HT⟩ := hrel
        have HQ := Lib.hid hq
        have HEN := Lib.hid HT.out.enc
        have HBD := Lib.hid (HL.out.bd s (List.mem_of_getElem? hq))
        have hsl := HL.out.len s (List.mem_of_getElem? hq)
        have HSL := Lib.hid hsl
        have e1 := HT.out.b1.cell; have e2 := HT.out.b2.cell
        obtain ⟨fn, tmps, assign, body, hyy, hR⟩ := HY.out q s _ wr hq HT.out.j HT.out.setAt
        have hle : (i : Int) ≤ (N : Int) := by omega
        clear hsl hq
        gi_wp2_with fail
        refine hR.mono ?_
        rintro e W3 ⟨rfl, hJ3, hk3⟩
        have HT3 := Lib.hid (HT.out.round hJ3 hk3)
        have d1 := HT3.out.b1.cell; have d2 := HT3.out.b2.cell
        clear hR hyy e1 e2 hJ3 hk3
        have p1 : IntKind.i64.wrap ((i : Int) - 1) = (i : Int) - 1 := by rw [IntKind.wrap_i64]; omega
        have p2 : IntKind.i64.wrap ((N : Int) - (i : Int)) = (N : Int) - (i : Int) := by rw [IntKind.wrap_i64]; omega
        have HTW : Hid (∀ m, ItS J (q + 1) W.heap.size W.heap.size i N B1 B2 (W3.drewN m) s) := fun m => HT3.out.drawn HJ.out m
        gi_wp2_with fail
        gi_loopw [6] (fun t wr => ∃ (r : Nat) (x : Int), r ≤ i ∧ t = .int .i64 x ∧ x = (r : Int) - 1 ∧ Hid (ItS J (q + 1) W.heap.size W.heap.size i N B1 B2 wr s) ∧ Hid (topI N i s i = topI N i s r)) (fun t _ => (intOf t + 1).toNat)
        case atStart => exact ⟨i, (i : Int) - 1, Nat.le_refl _, rfl, rfl, HT3.out, rfl⟩
        case round =>
          obtain ⟨r, x, hri, rfl, hx, HT4, HTI⟩ := hrel
          clear d1 d2 p1
          have e1 := HT4.out.b1.cell; have e2 := HT4.out.b2.cell
          have HTD : Hid (∀ m, ItS J (q + 1) W.heap.size W.heap.size i N B1 B2 (wr.drewN m) s) := fun m => HT4.out.drawn HJ.out m
          cases r with
          | zero =>
            obtain rfl : x = -1 := by omega
            have HEND : Hid (q + 1 = L.length) := by
              have h1 : nxtS N i s = none := by
                unfold nxtS
                have : topI N i s i = none := HTI.out
                rw [this]
              have h2 := HL.out.next q s HQ.out
              rw [h1] at h2
              have h3 := List.getElem?_eq_none_iff.1 h2.symm
              have h4 := (List.getElem?_eq_some_iff.1 HQ.out).1
              unfold Hid; omega
            clear hx
            gi_wp2_with fail
            gi_quiet (fail)
            gi_wp2_with fail
            refine bodyPost_ret (results_none rfl _ _ _) rfl ⟨⟨_, rfl⟩, ?_⟩
            rw [← HEND.out]
            exact (HTD.out _).j
          | succ r =>
            obtain rfl : x = (r : Int) := by omega
            have hrs : r < s.length := by rw [HSL.out]; omega
            obtain ⟨v, hv⟩ : ∃ v, s[r]? = some v := ⟨_, List.getElem?_eq_getElem hrs⟩
            have hvN := HL.out.lt s (List.mem_of_getElem? HQ.out) v (List.mem_of_getElem? hv)
            obtain ⟨g1, g2⟩ := HT4.out.cell hv
            have HV := Lib.hid hv
            have hgd : s.getD r 0 = v := by rw [List.getD_eq_getElem?_getD, hv]; rfl
            have HGD := Lib.hid hgd
            have p3 : IntKind.i64.wrap ((N : Int) - (i : Int) + (r : Int)) = (N : Int) - (i : Int) + (r : Int) := by rw [IntKind.wrap_i64]; omega
            have p4 : (0 : Int) ≤ (r : Int) := by omega
            have p5 : (r : Int) < (i : Int) := by omega
            by_cases hvr : v + i = N + r
            · have hq : ((v : Int) == (N : Int) - (i : Int) + (r : Int)) = true := by rw [beq_iff_eq]; omega
              have HT5 : Hid (topI N i s i = topI N i s r) := by
                unfold Hid
                rw [HTI.out]
                show (if s.getD r 0 + i = N + r then topI N i s r else some r) = _
                rw [hgd, if_pos hvr]
              have p6 : IntKind.i64.wrap ((r : Int) - 1) = (r : Int) - 1 := by rw [IntKind.wrap_i64]; omega
              clear hx hv hgd hvr hrs HTI
              gi_wp2_with fail
              gi_quiet (fail)
              gi_wp2_with fail
              go_roundw
              case rel => exact ⟨r, (r : Int) - 1, by omega, by go_num, rfl, HTD.out _, HT5.out⟩
              case measure => simp [intOf] <;> omega
            · have hq : ((v : Int) == (N : Int) - (i : Int) + (r : Int)) = false := by rw [beq_eq_false_iff_ne]; omega
              have HT5 : Hid (topI N i s i = some r) := by
                unfold Hid
                rw [HTI.out]
                show (if s.getD r 0 + i = N + r then topI N i s r else some r) = _
                rw [hgd, if_neg hvr]
              have p6 : ¬ (r : Int) < 0 := by omega
              have p7 : IntKind.i64.wrap ((v : Int) + 1) = (v : Int) + 1 := by rw [IntKind.wrap_i64]; omega
              have p8 : IntKind.i64.wrap ((r : Int) + 1) = (r : Int) + 1 := by rw [IntKind.wrap_i64]; omega
              have HSET : Hid (∀ m, ItS J (q + 1) W.heap.size W.heap.size i N B1 B2 ((wr.drewN m).setCell ⟨W.heap.size, r, none⟩ (.int .i64 ((v : Int) + 1))) (midS s i r (r + 1))) := fun m => by
                have := (HTD.out m).set HJ.out r (v + 1)
                rw [← hgd, midS_start HSL.out (by omega), hgd] at this
                exact this
              clear hx hv hgd hvr hrs HTI
              gi_wp2_with fail
              gi_quiet (fail)
              gi_wp2_with fail
              gi_loopw [7] (fun t wr => ∃ j : Nat, r < j ∧ j ≤ i ∧ t = .int .i64 (j : Int) ∧ Hid (ItS J (q + 1) W.heap.size W.heap.size i N B1 B2 wr (midS s i r j))) (fun t _ => i - (intOf t).toNat)
              case atStart => exact ⟨r + 1, by omega, by omega, by go_num, HSET.out _⟩
              case round =>
                obtain ⟨j, hrj, hji, rfl, HT6⟩ := hrel
                clear g1 g2 e1 e2
                have e1 := HT6.out.b1.cell
                by_cases hlt2 : j < i
                · obtain ⟨y, hy⟩ := midS_old (s := s) HSL.out hrj hlt2
                  have hz := midS_get (s := s) HSL.out hrj hji
                  obtain ⟨g1, g2⟩ := HT6.out.cell hy
                  obtain ⟨g3, g4⟩ := HT6.out.cell hz
                  have hb1 := HL.out.lt s (List.mem_of_getElem? HQ.out) v (List.mem_of_getElem? HV.out)
                  have HN := Lib.hid (HT6.out.set HJ.out j (s.getD r 0 + (j - r) + 1))
                  rw [midS_set HSL.out hrj hlt2] at HN
                  obtain ⟨z, hzz⟩ : ∃ z, z = s.getD r 0 + (j - r) := ⟨_, rfl⟩
                  rw [← hzz] at g3 HN
                  have hzb : z < 100 := by rw [hzz, HGD.out]; omega
                  have HN2 : Hid (ItS J (q + 1) W.heap.size W.heap.size i N B1 B2 (wr.setCell ⟨W.heap.size, j, none⟩ (.int .i64 ((z : Int) + 1))) (midS s i r (j + 1))) := HN.out
                  have p9 : IntKind.i64.wrap ((z : Int) + 1) = (z : Int) + 1 := by rw [IntKind.wrap_i64]; omega
                  have p10 : IntKind.i64.wrap ((j : Int) - 1) = ((j - 1 : Nat) : Int) := by rw [IntKind.wrap_i64]; omega
                  have p11 : IntKind.i64.wrap ((j : Int) + 1) = (j : Int) + 1 := by rw [IntKind.wrap_i64]; omega
                  have p12 : (0 : Int) ≤ ((j - 1 : Nat) : Int) := by omega
                  have p13 : ((j - 1 : Nat) : Int) < (i : Int) := by omega
                  have p14 : (j : Int) < (i : Int) := by omega
                  clear hy hz hzz HN
                  gi_wp2_with fail
                  go_roundw
                  case rel => exact ⟨j + 1, by omega, by omega, by go_num, HN2.out⟩
                  case measure => simp [intOf] <;> omega
                · obtain rfl : j = i := by omega
                  have hnx := HL.out.next q s HQ.out
                  rw [midS_end HSL.out HT5.out] at hnx
                  have HNX := Lib.hid hnx.symm
                  have HUP := Lib.hid (HL.out.up q s _ HQ.out hnx.symm)
                  have HE6 := Lib.hid HT6.out.enc
                  clear hnx
                  gi_wp2_with fail
                  go_roundw
                  case rel => exact ⟨q + 1, _, HNX.out, HT6.out⟩
                  case measure =>
                    have a1 := HEN.out; have a2 := HE6.out; have a3 := HUP.out; have a4 := HBD.out
                    omega
theorem Oper.wpIn_of_wp {P : Program} {l n : Nat} {o : Oper} {a : Act} {w : World} {K : Act → World → Prop} {Q : Exit → Act → World → Prop} (h1 : ∀ c, o.op ≠ .defer c) (h : o.wp P a w K Q) : o.wpIn (Fence.wide.inRound l) n P a w K Q := by
  unfold Oper.wp at h
  unfold Oper.wpIn
  refine ⟨fun _ _ => trivial, ?_⟩
  rw [show (Fence.wide.inRound l).round = some l from rfl, Oper.semAt_eq _ _ _ h1]
  generalize (execOp a.eval o).run P w = r at *
  have hd : (Fence.wide.inRound l).depth.isSome = true → 1 ≤ n := fun e => by simp [Fence.wide] at e
  cases r with
  | ok x w' =>
    cases x with
    | enter f args => exact ⟨hd, CallsIn.inRound l (callsIn_wide.2 h)⟩
    | row r args =>
      refine ⟨hd, fun c cs _ => ?_⟩
      obtain ⟨v, w2, hr, hs⟩ := h c cs
      exact ⟨v, w2, hr, stepsIn_wide.2 hs⟩
    | _ => first | exact h | exact False.elim h
  | halt x w' => cases x <;> first | exact h | exact False.elim h
def noDefer (ops:Array Oper):Bool:=ops.all fun o=>match o.op with | .defer _=>false | _=>true
theorem noDefer_spec {ops:Array Oper} (h:noDefer ops=true) {i:Nat} {o:Oper} (hi:ops[i]?=some o):∀ c,o.op≠.defer c:=by
 intro c hc
 have:=Array.all_eq_true_iff_forall_mem.1 h o (Array.mem_of_getElem? hi)
 rw [hc] at this
 cases this
theorem wpOpIn_of_wpOp {P : Program} {l n : Nat} {ops : Array Oper} {Q : Exit → Act → World → Prop} (hn : noDefer ops = true) (hq : ¬ LetsOut Q) {i : Nat} {K : Act → World → Prop} {a : Act} {w : World} (h : wpOp P ops Q i K a w) : wpOpIn (Fence.wide.inRound l) n P ops Q i K a w := by
  unfold wpOp at h
  unfold wpOpIn
  cases hi : ops[i]? with
  | none => simpa [hi] using h
  | some o =>
    simp only [hi] at h ⊢
    split
    · rename_i hw
      simp only [hw, if_true] at h
      rcases h with h | ⟨-, h⟩
      · exact Oper.wpIn_of_wp (noDefer_spec hn hi) h
      · exact absurd h hq
    · rename_i hw
      simp only [hw] at h
      exact ⟨fun _ _ => trivial, h⟩
theorem wpAnyIn_of_wpAny {P:Program} {l n:Nat} {md:Region.Mode} {ops:Array Oper} {Q:Exit→Act→World→Prop} (hn:noDefer ops=true) (hq:¬ LetsOut Q):∀ (f:Nat) (ls:Array Bool) (a:Act) (w:World),wpAny P md ops Q f ls a w→wpAnyIn (Fence.wide.inRound l) n P md ops Q f ls a w
 | 0,ls,a,w,h=>h
 | f+1,ls,a,w,h=>⟨h.1,fun i hi=>wpOpIn_of_wpOp hn hq (wpOp_mono (fun a w k=>wpAnyIn_of_wpAny hn hq f _ a w k) (h.2 i hi))⟩
theorem anyE_two {P:Program} {ops:Array Oper} {Q:Exit→Act→World→Prop} {md:Region.Mode} {S:World→Prop} {z:Nat} (i j:Nat) {o p:Oper} {f:Nat} {l:Array Bool} {a:Act} {w:World} (hr:Region.ready md ops l=[i,j]) (ho:ops[i]?=some o) (hp:ops[j]?=some p)
  (h1:∀ K:Act→World→Prop,Shut (∀ b u,S u→(S u→anyE P md ops Q S z f (l.setIfInBounds i true) b u)→K b u)→if Region.wanted o (yielded ops a.tmps)=true then Oper.wp P o a w K Q else K (a.put o.dst undef) w)
  (h2:∀ K:Act→World→Prop,Shut (∀ b u,S u→(S u→anyE P md ops Q S z f (l.setIfInBounds j true) b u)→K b u)→if Region.wanted p (yielded ops a.tmps)=true then Oper.wp P p a w K Q else K (a.put p.dst undef) w):anyE P md ops Q S z (f+1) l a w:=by
 refine ⟨(fun e=>by rw [hr] at e;cases e),fun q hq=>?_⟩
 rw [hr] at hq
 rcases List.mem_cons.1 hq with rfl | hq
 ·exact wpOp_step ho fun K hK=>h1 K fun b u hS hrest=>hK b u ⟨fun _=>hS,hrest hS⟩
 ·obtain rfl:q=j:=by simpa using hq
  exact wpOp_step hp fun K hK=>h2 K fun b u hS hrest=>hK b u ⟨fun _=>hS,hrest hS⟩
theorem regionIn_anyE {P:Program} {l n:Nat} {ops:Array Oper} {Q:Exit→Act→World→Prop} (S:World→Prop) (z:Nat) {id:Nat} {a:Act} {w:World} (hm:P.follows .mixedOrders=true) (hn:noDefer ops=true) (hq:¬ LetsOut Q) (hS:S w.drew)
  (h:S w.drew→anyE P .any ops Q S z ops.size (Array.replicate ops.size false) a w.drew):(Code.region id ops true).wpIn (Fence.wide.inRound l) n P Q a w :=
 wpIn_region_any hm (wpAnyIn_of_wpAny hn hq _ _ _ _ (anyE_any _ _ _ _ (h hS)))
theorem wpListIn_of_wp {P:Program} {l n:Nat} {ops:Array Oper} {rest:List Oper} {o:Oper} {a:Act} {w:World} {Q:Exit→Act→World→Prop} (hg:o.guard=none) (hd:∀ c,o.op≠.defer c)
  (h:∀ K:Act→World→Prop,(∀ a w,wpListIn (Fence.wide.inRound l) n P ops Q rest a w→K a w)→o.wp P a w K Q):wpListIn (Fence.wide.inRound l) n P ops Q (o::rest) a w :=
 wpListIn_plain hg fun K hK=>Oper.wpIn_of_wp hd (h K hK)
end Go.Proofs.YtjlkkofmojgipaaGreatDoor
namespace Go.Proofs.YtjlkkofmojgipaaGreatDoor
set_option linter.unusedVariables false
set_option linter.unusedSimpArgs false
open Go.RowKit
theorem infoRowT:(Tryz.prog.info? 27).map (fun i=>(i.zero,i.size,i.bytes))=some (some (.slice none 0 0),1,24):=by kernel_rfl
theorem RowI.ofOwn {w:World} {B g n c:Nat} {xs:List Int} (h:w.ownsRow B 3 1 (.slice (some ⟨g,0,none⟩) n c) n (xs.map (Value.int .i64 ·))):RowI w g xs:=by
 have hl:=h.lt g (by simp [Value.ownBlock])
 have hc:=h.cells (g:=g) (by simp [Value.ownBlock])
 refine ⟨hl.2,fun j x hx=>?_,fun j=>h.frozenAt j⟩
 have:=hc j (.int .i64 x) (by rw [List.getElem?_map,hx];rfl)
 rw [show (⟨g,0,none⟩:Addr).add j=⟨g,j,none⟩ by unfold Addr.add;split <;> simp_all] at this
 exact this
theorem RowI.set {w:World} {g:Nat} {xs:List Int} (h:RowI w g xs) (k:Nat) (hk:k<xs.length) (y:Int):RowI (w.setCell ⟨g,k,none⟩ (.int .i64 y)) g (xs.set k y):=by
 refine ⟨by rw [setCell_sizeQ];exact h.lt,fun j x hj=>?_,fun j=>by rw [frozen_set];exact h.free j⟩
 rw [List.getElem?_set] at hj
 by_cases e:k=j
 ·subst e
  rw [if_pos rfl,if_pos hk] at hj
  cases hj
  exact World.cell?_setCell_same w _ _ (h.cell k _ (List.getElem?_eq_getElem hk))
 ·rw [if_neg e] at hj
  rw [World.cell?_setCell_other _ _ _ _ (by intro e2;simp only [Addr.mk.injEq] at e2;omega)]
  exact h.cell j x hj
theorem RowI.ext {w w':World} {g:Nat} {xs:List Int} (h:RowI w g xs) (he:Ext w w'):RowI w' g xs:=h.same he.size (he.block g h.lt)
end Go.Proofs.YtjlkkofmojgipaaGreatDoor
