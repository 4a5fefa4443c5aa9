import Derived.Test.YtjlkkofmojgipaaGreatDoorPAX
import Derived.Test.YtjlkkofmojgipaaGreatDoorPBA
import Derived.Test.YtjlkkofmojgipaaGreatDoorPAW
import Derived.RegionTactic
import Derived.BigRegion
import Derived.Deep.DeepCutAuto
namespace Go.Proofs.YtjlkkofmojgipaaGreatDoor
set_option linter.unusedVariables false
set_option linter.unusedSimpArgs false
open Go.RowKit
theorem nodup_set {l:List Nat} {i x:Nat} (h:l.Nodup) (hx:x∉l):(l.set i x).Nodup:=by
 rw [List.Nodup,List.pairwise_iff_getElem] at h ⊢
 intro a b ha hb hab
 rw [List.length_set] at ha hb
 rw [List.getElem_set,List.getElem_set]
 split
 ·split
  ·omega
  ·intro e;exact hx (e▸List.getElem_mem _)
 ·split
  ·intro e;exact hx (e▸List.getElem_mem _)
  ·exact h a b ha hb hab
theorem MatB.newRow {w w':World} {g0:Nat} {tags:List (Nat×Nat×Nat)} {m:List (List Int)} (h:MatB w g0 tags m) (i:Nat) (hi:i<m.length) (t:Nat×Nat×Nat) (r:List Int) (he:Ext w w') (hR:RowB w' t.1 t.2.1 r) (hnew:w.heap.size≤t.1) (h1:r.length≤t.2.2) (h2:t.2.2≤maxLen) :
  MatB (w'.setCell ⟨g0,i,none⟩ (.slice (some ⟨t.1,t.2.1,none⟩) r.length t.2.2)) g0 (tags.set i t) (m.set i r):=by
 have h':=h.ext he
 have hg:g0≠t.1:=by have:=h.lt;omega
 refine ⟨by rw [List.length_set,List.length_set];exact h.len,by rw [setCell_size];exact h'.lt,fun j=>by rw [setCell_free];exact h'.free j,fun j s q hs hq=>?_,?_⟩
 ·rw [List.getElem?_set] at hs hq
  obtain ⟨t0,ht0,hc0,-⟩:=h'.get i hi
  by_cases hj:i=j
  ·subst hj
   rw [if_pos rfl,if_pos (by rw [h.len];exact hi)] at hs
   rw [if_pos rfl,if_pos hi] at hq
   cases hs;cases hq
   exact ⟨World.cell?_setCell_same _ _ _ hc0,h1,h2,hR.other _ _ _ (fun e=>hg e.symm)⟩
  ·rw [if_neg hj] at hs hq
   obtain ⟨q1,q2,q3,q4⟩:=h'.row j s q hs hq
   refine ⟨(World.cell?_setCell_other _ _ _ _ (by intro e;simp only [Addr.mk.injEq] at e;exact hj e.2.1)).trans q1,q2,q3,q4.other _ _ _ ?_⟩
   have hl:j<m.length:=(List.getElem?_eq_some_iff.1 hq).1
   obtain ⟨s',hs',-,-,-,-,hne⟩:=h'.get j hl
   obtain rfl:s'=s:=Option.some.inj (hs'.symm.trans hs)
   exact hne
 ·rw [List.map_set]
  have:=h.nodup
  rw [List.nodup_cons] at this ⊢
  have hnin:t.1∉tags.map (·.1):=fun hm=>by
   have:=h.blt (b:=t.1) (List.mem_cons_of_mem _ hm);omega
  refine ⟨fun hm=>?_,nodup_set this.2 hnin⟩
  rcases List.mem_or_eq_of_mem_set hm with e | e
  ·exact this.1 e
  ·exact hg e
theorem MatB.elem {w:World} {g0:Nat} {tags:List (Nat×Nat×Nat)} {m:List (List Int)} (h:MatB w g0 tags m) {n:Nat} (hok:okM n m=true) (i c:Nat) (hi:i<m.length) (hc:c<n) :
  ∃ t:Nat×Nat×Nat,tags[i]?=some t∧w.cell? ⟨g0,i,none⟩=some (.slice (some ⟨t.1,t.2.1,none⟩) n t.2.2)∧n≤t.2.2∧t.2.2≤maxLen∧w.cell? ⟨t.1,t.2.1+c,none⟩=some (.string (intB (getE m i c)))∧RowB w t.1 t.2.1 (rowE_ m i)∧t.1≠g0∧Sz (getE m i c)∧(rowE_ m i).length=n∧(rowE_ m i)[c]?=some (getE m i c):=by
 obtain ⟨t,ht,h1,h2,h3,h4,h5⟩:=h.get i hi
 obtain ⟨hl,hs⟩:=okM_row hok i hi
 have hcl:c<(rowE_ m i).length:=by omega
 have e:(rowE_ m i)[c]?=some (getE m i c):=by
  unfold getE;rw [List.getD_eq_getElem?_getD,List.getElem?_eq_getElem hcl];rfl
 rw [hl] at h1 h2
 exact ⟨t,ht,h1,h2,h3,h4.cell c _ e,h4,h5,sm_of (List.all_eq_true.1 hs _ (List.mem_of_getElem? e)),hl,e⟩
def bestV:Option Nat→Value
 | none=>.int .i64 (-1)
 | some a=>.int .i64 a
theorem bestW_succ (c d:Nat) (m:List (List Int)) (k:Nat):bestO c d m (k+1)=match bestO c d m k with
  | none=>if getE m (d+k) c=0 then none else some (d+k)
  | some a=>if getE m (d+k) c≠0∧(getE m (d+k) c).natAbs<(getE m a c).natAbs then some (d+k) else some a:=rfl
theorem bestW_zero {c d i:Nat} {m:List (List Int)} (hi:d≤i) (h:getE m i c=0):bestO c d m (i+1-d)=bestO c d m (i-d):=by
 rw [show i+1-d=(i-d)+1 by omega,bestW_succ,show d+(i-d)=i by omega]
 cases bestO c d m (i-d) with
 | none=>simp [h]
 | some a=>simp [h]
theorem bestW_first {c d i:Nat} {m:List (List Int)} (hi:d≤i) (h:getE m i c≠0) (hb:bestO c d m (i-d)=none):bestO c d m (i+1-d)=some i:=by
 rw [show i+1-d=(i-d)+1 by omega,bestW_succ,show d+(i-d)=i by omega,hb]
 simp [h]
theorem bestW_next {c d i a:Nat} {m:List (List Int)} (hi:d≤i) (h:getE m i c≠0) (hb:bestO c d m (i-d)=some a):bestO c d m (i+1-d)=if (getE m i c).natAbs<(getE m a c).natAbs then some i else some a:=by
 rw [show i+1-d=(i-d)+1 by omega,bestW_succ,show d+(i-d)=i by omega,hb]
 simp only
 by_cases hl:(getE m i c).natAbs<(getE m a c).natAbs
 ·rw [if_pos ⟨h,hl⟩,if_pos hl]
 ·rw [if_neg (fun x=>hl x.2),if_neg hl]
theorem bestW_in {c d:Nat} {m:List (List Int)}:∀ (k a:Nat),bestO c d m k=some a→d≤a∧a<d+k∧getE m a c≠0
 | 0,a,h=>by simp [bestO] at h
 | k+1,a,h=>by
  rw [bestW_succ] at h
  cases hb:bestO c d m k with
  | none =>
   rw [hb] at h
   simp only at h
   split at h
   ·cases h
   ·rename_i hne
    obtain rfl:=Option.some.inj h
    exact ⟨by omega,by omega,hne⟩
  | some b =>
   rw [hb] at h
   simp only at h
   have ih:=bestW_in k b hb
   split at h
   ·rename_i hc
    obtain rfl:=Option.some.inj h
    exact ⟨by omega,by omega,hc.1⟩
   ·obtain rfl:=Option.some.inj h
    exact ⟨ih.1,by omega,ih.2.2⟩
theorem cmpW_lt (x y:Int):decide (cmpI (x.natAbs:Int) (y.natAbs:Int)<0)=decide (x.natAbs<y.natAbs):=by
 unfold cmpI
 by_cases h:x.natAbs<y.natAbs
 ·rw [if_pos (by omega),decide_eq_true h];rfl
 ·rw [if_neg (by omega),decide_eq_false h];split <;> rfl
theorem szW_size {x:Int} (h:Sz x):(intB x).size≤10000000000:=by have:=h.size;omega
theorem fdq_z (y:Int):fdq 0 y=0∧fdr 0 y=0:=by unfold fdq fdr;simp
theorem mset_same {m:List (List Int)} {i:Nat} (hi:i<m.length):m.set i (rowE_ m i)=m:=by
 apply List.ext_getElem?
 intro j
 rw [List.getElem?_set]
 by_cases h:i=j
 ·subst h;rw [if_pos rfl,if_pos hi,rowE_get hi]
 ·rw [if_neg h]
theorem lessL_zero:∀ (r s:List Int),s.length=r.length→lessL 0 r s=r
 | [],[],_=>rfl
 | a::r,b::s,h=>by rw [lessL,lessL_zero r s (by simpa using h)];simp
 | [],_::_,h=>by simp at h
 | _::_,[],h=>by simp at h
theorem lessO_sz {k:Int} {r s r':List Int} (h:lessO k r s=some r') (hl:s.length=r.length) (hr:r.all smB=true) (hs:s.all smB=true):r'=lessL k r s∧(intB k).size≤2800000000∧(∀ b∈s,(intB b).size≤2800000000∧(intB (k*b)).size≤2800000000):=by
 unfold lessO at h
 by_cases h0:k=0
 ·rw [if_pos h0] at h
  subst h0
  refine ⟨by rw [lessL_zero r s hl];exact (Option.some.inj h).symm,by decide +kernel,fun b hb=>?_⟩
  have:=(sm_of (List.all_eq_true.1 hs b hb)).size
  rw [Int.zero_mul]
  exact ⟨by omega,by decide +kernel⟩
 ·rw [if_neg h0] at h
  by_cases hc:s.length=r.length∧(sm9B k && s.all sm9B && r.all smB)=true
  ·rw [if_pos hc] at h
   have h2:=hc.2
   rw [Bool.and_eq_true,Bool.and_eq_true] at h2
   have hk:=(sm9_of h2.1.1).size
   refine ⟨(Option.some.inj h).symm,by omega,fun b hb=>?_⟩
   have h3:=(sm9_of (List.all_eq_true.1 h2.1.2 b hb)).size
   have h4:=mul_size k b
   exact ⟨by omega,by omega⟩
  ·rw [if_neg hc] at h;cases h
def NewTags (tags:List (Nat×Nat×Nat)) (B:Nat) (tags':List (Nat×Nat×Nat)):Prop:=∀ t∈tags',t∈tags∨B≤t.1
set_option maxRecDepth 1000000 in
set_option maxHeartbeats 40000000 in
theorem column_any (n F c d:Nat) (m:List (List Int)) (tags:List (Nat×Nat×Nat)) (g0 cap:Nat) (w:World) (R:List (List Int)×Bool) (hM:MatB w g0 tags m) (hok:colW n c d F m=some R)
  (hcap:m.length≤cap) (hcap2:cap≤maxLen) (hd:d≤m.length) (hcn:c<n) (hn:n≤1000000) (ht:Pow10 w) (hb:4<g0) :
  Calls Tryz.prog 136 #[.slice (some ⟨g0,0,none⟩) m.length cap,.int .i64 d,.int .i64 c] w fun e w'=>∃ tags',e=.returned (.bool R.2)∧MatB w' g0 tags' R.1∧NewTags tags w.heap.size tags'∧GrownS (·=g0) w w':=by
 have HM:=Lib.hid hM;have HOK:=Lib.hid hok;have HT:=Lib.hid ht;have HB:=Lib.hid hb
 have HPW:Hid (∀ W,GrownS (·=g0) w W→Pow10 W):=fun W hW=>ht.below (hW.below (base:=g0) (Nat.le_of_lt hM.lt) (fun k hk=>by rw [hk];exact Nat.le_refl _)) hb
 unfold maxLen at hcap2
 obtain ⟨L,hL⟩:∃ L,m.length=L:=⟨_,rfl⟩
 rw [hL] at hcap hd ⊢
 have HL:=Lib.hid hL
 clear hM hok ht hb hL
 go_enter Tryz.func136,Tryz.ntmps136
 go_wp2_with fail
 go_loopg [] F (fun f wr=>∃ (m2:List (List Int)) (tags2:List (Nat×Nat×Nat)),GrownS (·=g0) w wr∧Hid (MatB wr g0 tags2 m2)∧Hid (m2.length=L)∧Hid (colW n c d f m2=some R)∧Hid (NewTags tags w.heap.size tags2))
 case atStart=>exact ⟨m,tags,GrownS.refl _ _,HM.out,HL.out,HOK.out,fun t ht=>.inl ht⟩
 case round =>
  obtain ⟨m2,tags2,hG,HFA,HL2,HSW,HTG⟩:=hrel
  obtain ⟨w2,rfl⟩:∃ w2:World,w2=wr:=⟨_,rfl⟩
  cases gk with
  | zero=>exact absurd HSW.out (by unfold colW;simp)
  | succ f =>
  have hS:=HSW.out
  rw [colW_succ] at hS
  by_cases hokm:okM n m2=true
  ·rw [if_pos hokm,HL2.out] at hS
   have HOKM:=Lib.hid hokm
   have HS:=Lib.hid hS
   clear hS hokm HSW
   go_wp2_with fail
   go_loopw [7,8] (fun sa si wr=>∃ i:Nat,d≤i∧i≤L∧si=.int .i64 i∧Ext w2 wr∧Hid (sa=bestV (bestO c d m2 (i-d)))) (fun _ si _=>L-(intOf si).toNat)
   case atStart=>exact ⟨d,by omega,by omega,rfl,Ext.refl _,by rw [Nat.sub_self];rfl⟩
   case round =>
    obtain ⟨i,hdi,hiL,rfl,hE,HA⟩:=hrel
    obtain ⟨w3,rfl⟩:∃ w3:World,w3=wr:=⟨_,rfl⟩
    have HA0:=HA
    have hA:=HA.out
    clear HA
    by_cases hil:i<L
    ·as_aux_lemma =>
     obtain ⟨t,ht,k1,k2,k3,k4,k5,k6,k7,-,-⟩:=MatB.elem (HFA.out.ext hE) HOKM.out i c (by rw [HL2.out];exact hil) hcn
     unfold maxLen at k3
     have hz:=int_zero (getE m2 i c)
     by_cases he:getE m2 i c=0
     ·rw [decide_eq_true he] at hz
      have HN:Hid (u7=bestV (bestO c d m2 (i+1-d))):=by unfold Hid;rw [bestW_zero hdi he];exact hA
      have HE:=Lib.hid hE
      obtain ⟨x,hx⟩:∃ x,getE m2 i c=x:=⟨_,rfl⟩
      rw [hx] at k4 hz
      clear ht k5 k6 k7 hA he hx hE
      go_wp2_with fail
      go_quiet (fail)
      go_wp2_with fail
      go_roundw
      case rel=>exact ⟨i+1,by omega,by omega,by go_num,Ext.draws HE.out _,HN.out⟩
      case measure=>simp [intOf];omega
     ·rw [decide_eq_false he] at hz
      cases hbo:bestO c d m2 (i-d) with
      | none =>
       rw [hbo] at hA
       obtain rfl:u7=.int .i64 (-1):=hA
       have HN:Hid (Value.int .i64 (i:Int)=bestV (bestO c d m2 (i+1-d))):=by unfold Hid;rw [bestW_first hdi he hbo];rfl
       have HE:=Lib.hid hE
       obtain ⟨x,hx⟩:∃ x,getE m2 i c=x:=⟨_,rfl⟩
       rw [hx] at k4 hz
       clear ht k5 k6 k7 he hx hE hbo
       go_wp2_with fail
       go_quiet (fail)
       go_wp2_with fail
       go_roundw
       case rel=>exact ⟨i+1,by omega,by omega,by go_num,Ext.draws HE.out _,HN.out⟩
       case measure=>simp [intOf];omega
      | some a =>
       rw [hbo] at hA
       obtain rfl:u7=.int .i64 a:=hA
       obtain ⟨ha1,ha2,ha3⟩:=bestW_in _ _ hbo
       have haL:a<L:=by omega
       obtain ⟨s,hs,l1,l2,l3,l4,l5,l6,l7,-,-⟩:=MatB.elem (HFA.out.ext hE) HOKM.out a c (by rw [HL2.out];exact haL) hcn
       unfold maxLen at l3
       have HNX:=Lib.hid (bestW_next hdi he hbo)
       have HCM:=Lib.hid (cmpW_lt (getE m2 i c) (getE m2 a c))
       have HE:=Lib.hid hE
       obtain ⟨x,hx⟩:∃ x,getE m2 i c=x:=⟨_,rfl⟩
       obtain ⟨y,hy⟩:∃ y,getE m2 a c=y:=⟨_,rfl⟩
       rw [hx] at k4 hz k7 HNX HCM
       rw [hy] at l4 l7 HNX HCM
       have HCQ:=Lib.hid (fun W=>compare_q (x.natAbs:Int) (y.natAbs:Int) W (szW_size k7.natAbs) (szW_size l7.natAbs))
       clear ht k5 k6 k7 he hx hy hE hbo hs l5 l6 l7 ha1 ha2 ha3
       by_cases hxy:x.natAbs<y.natAbs
       ·have hcb:decide (cmpI (x.natAbs:Int) (y.natAbs:Int)<0)=true:=by rw [HCM.out];exact decide_eq_true hxy
        have HN:Hid (Value.int .i64 (i:Int)=bestV (bestO c d m2 (i+1-d))):=by unfold Hid;rw [HNX.out,if_pos hxy];rfl
        clear hxy HNX HCM
        go_wp2_with fail
        go_quiet ((first | (go_at_call 152;exact Calls.quiet_of (abs_q _ _)) | (go_at_call 151;exact Calls.quiet_of (HCQ.out _))))
        go_wp2_with fail
        go_roundw
        case rel=>exact ⟨i+1,by omega,by omega,by go_num,Ext.draws HE.out _,HN.out⟩
        case measure=>simp [intOf];omega
       ·have hcb:decide (cmpI (x.natAbs:Int) (y.natAbs:Int)<0)=false:=by rw [HCM.out];exact decide_eq_false hxy
        have HN:Hid (Value.int .i64 (a:Int)=bestV (bestO c d m2 (i+1-d))):=by unfold Hid;rw [HNX.out,if_neg hxy];rfl
        clear hxy HNX HCM
        go_wp2_with fail
        go_quiet ((first | (go_at_call 152;exact Calls.quiet_of (abs_q _ _)) | (go_at_call 151;exact Calls.quiet_of (HCQ.out _))))
        go_wp2_with fail
        go_roundw
        case rel=>exact ⟨i+1,by omega,by omega,by go_num,Ext.draws HE.out _,HN.out⟩
        case measure=>simp [intOf];omega
    ·obtain rfl:i=L:=by omega
     clear hA
     have hA:=HA0.out
     have hS:=HS.out
     have HE:=Lib.hid hE
     have HG3:=Lib.hid (hG.ext hE)
     have HF3:=Lib.hid (HFA.out.ext hE)
     clear hE hG HFA HS
     cases hbo:bestO c d m2 (i-d) with
     | none =>
      rw [hbo] at hA hS
      obtain rfl:u7=.int .i64 (-1):=hA
      obtain rfl:=Option.some.inj hS
      clear hbo HA0
      go_wp2_with fail
      go_ret
      exact ⟨rfl,tags2,HF3.out,HTG.out,HG3.out⟩
     | some a =>
      rw [hbo] at hA hS
      obtain rfl:u7=.int .i64 a:=hA
      dsimp only at hS
      obtain ⟨ha1,ha2,ha3⟩:=bestW_in _ _ hbo
      have haL:a<i:=by omega
      obtain ⟨td,htd,c1,c2,c3,c4,c5⟩:=HF3.out.get d (by rw [HL2.out];omega)
      obtain ⟨ta,hta,e1,e2,e3,e4,e5⟩:=HF3.out.get a (by rw [HL2.out];omega)
      have fd:=HF3.out.free d
      have fa:=HF3.out.free a
      have HTD:=Lib.hid htd;have HTA:=Lib.hid hta
      have HSW1:=Lib.hid (HF3.out.swap d a (by rw [HL2.out];omega) (by rw [HL2.out];omega) td ta htd hta)
      have HSd:=Lib.hid hS
      clear hS hbo HA0 htd hta c2 c3 c4 c5 e2 e3 e4 e5 ha2 ha3
      go_upto_region 9 with fail
      go_cut [] from 14 to 129 (fun wx=>Hid (MatB wx g0 (swapL tags2 d a) (swapL m2 d a))∧Hid (GrownS (·=g0) w wx))
      case first =>
       as_aux_lemma =>
       by_cases hda:d=a
       ·subst hda
        obtain rfl:td=ta:=Option.some.inj (HTD.out.symm.trans HTA.out)
        go_region
        all_goals (go_wp2_with fail;go_meet;exact ⟨HSW1.out.ext (Ext.drew _),((HG3.out.setCell rfl _ _).setCell rfl _ _).ext (Ext.drew _)⟩)
       ·have hda1:¬ a=d:=fun e=>hda e.symm
        go_region
        all_goals (go_wp2_with fail;go_meet;exact ⟨HSW1.out.ext (Ext.drew _),((HG3.out.setCell rfl _ _).setCell rfl _ _).ext (Ext.drew _)⟩)
      case rest =>
       obtain ⟨HF4,HG4⟩:=hcut
       have HOKS:=Lib.hid (okM_swap HOKM.out d a)
       have HLS0:Hid ((swapL m2 d a).length=i):=by unfold Hid;rw [swapL_len];exact HL2.out
       have HTG2:Hid (NewTags tags w.heap.size (swapL tags2 d a)):=fun t ht=>HTG.out t (swapL_mem _ _ _ _ ht)
       have hSd:=HSd.out
       obtain ⟨ms,hms⟩:∃ ms,swapL m2 d a=ms:=⟨_,rfl⟩
       obtain ⟨ts,hts⟩:∃ ts,swapL tags2 d a=ts:=⟨_,rfl⟩
       rw [hms] at HF4 HOKS HLS0 hSd
       rw [hts] at HF4 HTG2
       clear hms hts HSd HSW1 HF3 HG3 c1 e1 fd fa HTD HTA
       cases hdn:downO c d ms (i-(d+1)) with
       | none=>rw [hdn] at hSd;cases hSd
       | some r =>
       obtain ⟨mf,rf⟩:=r
       rw [hdn] at hSd
       have HDN:=Lib.hid hdn
       have HSE:=Lib.hid hSd
       clear hdn hSd
       go_wp2_with fail
       go_loopw [9,10] (fun sr si wr=>∃ (i4:Nat) (mj:List (List Int)) (rj:Bool) (tj:List (Nat×Nat×Nat)),d+1≤i4∧i4≤i∧si=.int .i64 i4∧sr=.bool (!rj)∧Hid (GrownS (·=g0) w wr)∧Hid (MatB wr g0 tj mj)∧Hid (downO c d ms (i4-(d+1))=some (mj,rj))∧Hid (NewTags tags w.heap.size tj)) (fun _ si _=>i-(intOf si).toNat)
       case atStart=>exact ⟨d+1,ms,false,ts,by omega,by omega,by go_num,rfl,HG4.out,HF4.out,by unfold Hid;rw [Nat.sub_self];rfl,HTG2.out⟩
       case round =>
        obtain ⟨i4,mj,rj,tj,h4a,h4b,rfl,rfl,HGJ,HMJ,HDJ,HTJ⟩:=hrel
        obtain ⟨w4,rfl⟩:∃ w4:World,w4=wr:=⟨_,rfl⟩
        obtain ⟨kl1,kl2,kl3⟩:=downO_keep HDJ.out (by rw [HLS0.out];omega)
        have HLJ:Hid (mj.length=i):=by unfold Hid;rw [kl1];exact HLS0.out
        by_cases h4l:i4<i
        ·skip
         obtain ⟨z,hz4⟩:=downO_some HDN.out (i4+1-(d+1)) (by omega)
         rw [show i4+1-(d+1)=(i4-(d+1))+1 by omega] at hz4
         obtain ⟨mj',rj',nr,e1,hy0,hless,e2⟩:=downO_step hz4
         rw [HDJ.out] at e1
         simp only [Option.some.injEq,Prod.mk.injEq] at e1
         obtain ⟨rfl,rfl⟩:=e1
         rw [show d+1+(i4-(d+1))=i4 by omega] at hless e2
         have hXL:(rowE_ mj i4).length=n∧(rowE_ mj i4).all smB=true:=by
          rw [kl2 i4 (by omega)];exact okM_row HOKS.out i4 (by rw [HLS0.out];omega)
         have hYL:(rowE_ mj d).length=n∧(rowE_ mj d).all smB=true:=by
          rw [kl2 d (by omega)];exact okM_row HOKS.out d (by rw [HLS0.out];omega)
         have HST:Hid (downO c d ms (i4+1-(d+1))=some (mj.set i4 nr,rj || decide (fdr (getE mj i4 c) (getE mj d c)≠0))):=by unfold Hid;rw [show i4+1-(d+1)=(i4-(d+1))+1 by omega,hz4,e2]
         have hzz:=lessO_sz hless (by rw [hXL.1,hYL.1]) hXL.2 hYL.2
         obtain ⟨rfl,hq8,hss8⟩:=hzz
         clear hz4 e2 kl1 kl2 kl3 hless
         obtain ⟨t4,ht4,b1,b2,b3,b4,b5⟩:=HMJ.out.get i4 (by rw [HLJ.out];omega)
         obtain ⟨tp,htp,p1,p2,p3,p4,p5⟩:=HMJ.out.get d (by rw [HLJ.out];omega)
         have ex:(rowE_ mj i4)[c]?=some (getE mj i4 c):=by
          unfold getE;rw [List.getD_eq_getElem?_getD,List.getElem?_eq_getElem (by rw [hXL.1];exact hcn)];rfl
         have ey:(rowE_ mj d)[c]?=some (getE mj d c):=by
          unfold getE;rw [List.getD_eq_getElem?_getD,List.getElem?_eq_getElem (by rw [hYL.1];exact hcn)];rfl
         have b6:=b4.cell c _ ex
         have p6:=p4.cell c _ ey
         have hsx:Sz (getE mj i4 c):=sm_of (List.all_eq_true.1 hXL.2 _ (List.mem_of_getElem? ex))
         have hsy:Sz (getE mj d c):=sm_of (List.all_eq_true.1 hYL.2 _ (List.mem_of_getElem? ey))
         have HDM:=Lib.hid (fun W hW=>divModZ (getE mj i4 c) (getE mj d c) W hsx hsy hy0 hW)
         have hz:=int_zero (getE mj i4 c)
         have HNW:=Lib.hid (lessL_get (fdq (getE mj i4 c) (getE mj d c)) _ _ c _ _ ex ey)
         have hrs8:∀ a∈rowE_ mj i4,(intB a).size≤2800000000:=fun a ha=>by have:=(sm_of (List.all_eq_true.1 hXL.2 a ha)).size;omega
         have hll:(rowE_ mj d).length=(rowE_ mj i4).length:=by rw [hXL.1,hYL.1]
         rw [hXL.1] at b1 b2
         rw [hYL.1] at p1 p2
         have HLS:Hid (∀ W,Ext w4 W→Calls Tryz.prog 137 #[.slice (some ⟨t4.1,t4.2.1,none⟩) n t4.2.2,.slice (some ⟨tp.1,tp.2.1,none⟩) n tp.2.2,.string (intB (fdq (getE mj i4 c) (getE mj d c)))] W fun e w'=>e=.returned (.slice (some ⟨W.heap.size,0,none⟩) n n)∧Ext W w'∧RowB w' W.heap.size 0 (lessL (fdq (getE mj i4 c) (getE mj d c)) (rowE_ mj i4) (rowE_ mj d))):=fun W hW=>by
          have h9:=lineLess_any (fdq (getE mj i4 c) (getE mj d c)) (rowE_ mj i4) (rowE_ mj d) t4.1 t4.2.1 t4.2.2 tp.1 tp.2.1 tp.2.2 W (b4.ext hW) (p4.ext hW) hll hq8 hrs8 hss8 (by rw [hXL.1];exact b2) b3 (by rw [hYL.1];exact p2) p3 (by rw [hXL.1];exact hn) (HPW.out _ (HGJ.out.ext hW))
          rw [hXL.1,hYL.1] at h9
          exact h9
         have hNL:(lessL (fdq (getE mj i4 c) (getE mj d c)) (rowE_ mj i4) (rowE_ mj d)).length=n:=by rw [lessL_len];exact hXL.1
         have hSAME:getE mj i4 c=0→mj.set i4 (lessL (fdq (getE mj i4 c) (getE mj d c)) (rowE_ mj i4) (rowE_ mj d))=mj:=fun h0=>by
          rw [h0,(fdq_z _).1,lessL_zero _ _ hll,mset_same (by rw [HLJ.out];omega)]
         have hfz:=fd_eq (getE mj i4 c) (getE mj d c)
         have hfm:=int_zero (fdr (getE mj i4 c) (getE mj d c))
         unfold maxLen at b3 p3
         obtain ⟨nr,hnr⟩:∃ nr,lessL (fdq (getE mj i4 c) (getE mj d c)) (rowE_ mj i4) (rowE_ mj d)=nr:=⟨_,rfl⟩
         rw [hnr] at HLS HNW hNL hSAME HST
         obtain ⟨xe,hxe⟩:∃ x,getE mj i4 c=x:=⟨_,rfl⟩
         obtain ⟨ye,hye⟩:∃ y,getE mj d c=y:=⟨_,rfl⟩
         rw [hxe] at b6 HDM hz HNW HLS hSAME hfz hfm HST
         rw [hye] at p6 HDM HNW HLS hfz hfm HST
         have HNL:=Lib.hid hNL;have HSAME:=Lib.hid hSAME
         have HY0:=Lib.hid hy0
         rw [hye] at HY0
         rw [show xe-fdq xe ye*ye=fdr xe ye by rw [Int.mul_comm];omega] at HNW
         have HMJL:Hid (i4<mj.length):=by unfold Hid;rw [HLJ.out];exact h4l
         have HT4:=Lib.hid ht4
         have hd4:d<i:=by omega
         clear hnr hxe hye ex ey hsx hsy ht4 htp b4 p4 b5 p5 hy0 hXL hYL hq8 hss8 hrs8 hll hNL hSAME hfz HLS0 HDN HSE HOKS
         by_cases hx0:xe=0
         ·have hST:=HST.out
          rw [HSAME.out hx0,hx0,(fdq_z ye).2] at hST
          have HST2:Hid (downO c d ms (i4+1-(d+1))=some (mj,rj)):=by
           unfold Hid;rw [hST];simp
          rw [decide_eq_true hx0] at hz
          clear hST HST hx0 HLS HDM HSAME HNW HNL hfm
          go_wp2_with fail
          go_roundw
          case rel=>exact ⟨i4+1,mj,rj,tj,by omega,by omega,by go_num,rfl,HGJ.out,HMJ.out,HST2.out,HTJ.out⟩
          case measure=>simp [intOf];omega
         ·rw [decide_eq_false hx0] at hz
          clear hx0 HSAME
          go_upto_region 15 with fail
          refine region_anyEV (fun w'=>w'.cell? ⟨g0,i4,none⟩=some (.slice (some ⟨t4.1,t4.2.1,none⟩) n t4.2.2)∧w'.cell? ⟨t4.1,t4.2.1+c,none⟩=some (.string (intB xe))∧w'.cell? ⟨g0,d,none⟩=some (.slice (some ⟨tp.1,tp.2.1,none⟩) n tp.2.2)∧w'.cell? ⟨tp.1,tp.2.1+c,none⟩=some (.string (intB ye))∧Hid (Ext w4 w')) 22 22 (by kernel_rfl) (by kernel_rfl) ⟨(Ext.drew w4).cell b1,(Ext.drew w4).cell b6,(Ext.drew w4).cell p1,(Ext.drew w4).cell p6,Ext.drew w4⟩ (fun ops hO hHeld=>?_)
          have hi:=getopN hO 0 (by decide)
          conv at hi=>rhs;arg 1;whnf
          refine anyE_takeWV hO (v:=?_) 0 hi (by kernel_rfl) (by kernel_rfl) (by kernel_rfl) (by kernel_rfl) (fun _ _ _ h=>h) (Or.inl ⟨by rfl,?_⟩) (by assumption) ?_
          rotate_left
          ·((intro w');(try go_simp);(try with_reducible rfl))
          clear hi
          (try simp only [Act.put,List.setIfInBounds_toArray,List.set_cons_zero,List.set_cons_succ])
          have hi:=getopN hO 1 (by decide)
          conv at hi=>rhs;arg 1;whnf
          refine anyE_takeWV hO (v:=?_) 1 hi (by kernel_rfl) (by kernel_rfl) (by kernel_rfl) (by kernel_rfl) (fun _ _ _ h=>h) (Or.inl ⟨by rfl,?_⟩) (by assumption) ?_
          rotate_left
          ·((intro w');(try go_simp);(try with_reducible rfl))
          clear hi
          (try simp only [Act.put,List.setIfInBounds_toArray,List.set_cons_zero,List.set_cons_succ])
          have hi:=getopN hO 2 (by decide)
          conv at hi=>rhs;arg 1;whnf
          refine anyE_takeWV hO (v:=?_) 2 hi (by kernel_rfl) (by kernel_rfl) (by kernel_rfl) (by kernel_rfl) (fun _ _ _ h=>h) (Or.inl ⟨by rfl,?_⟩) (by assumption) ?_
          rotate_left
          ·((intro w');(try go_simp);(try with_reducible rfl))
          clear hi
          (try simp only [Act.put,List.setIfInBounds_toArray,List.set_cons_zero,List.set_cons_succ])
          have hi:=getopN hO 3 (by decide)
          conv at hi=>rhs;arg 1;whnf
          refine anyE_takeV hO (v:=?_) 3 hi (by kernel_rfl) (by kernel_rfl) (by kernel_rfl) (by kernel_rfl) (fun _ _ _ h=>h) (Or.inl ⟨by rfl,?_⟩) (by assumption) ?_
          rotate_left
          ·((intro w' hSw);(try dsimp only at hSw);(try go_simp);(try with_reducible rfl))
          clear hi
          (try simp only [Act.put,List.setIfInBounds_toArray,List.set_cons_zero,List.set_cons_succ])
          have hi:=getopN hO 4 (by decide)
          conv at hi=>rhs;arg 1;whnf
          refine anyE_takeWV hO (v:=?_) 4 hi (by kernel_rfl) (by kernel_rfl) (by kernel_rfl) (by kernel_rfl) (fun _ _ _ h=>h) (Or.inl ⟨by rfl,?_⟩) (by assumption) ?_
          rotate_left
          ·((intro w');(try go_simp);(try with_reducible rfl))
          clear hi
          (try simp only [Act.put,List.setIfInBounds_toArray,List.set_cons_zero,List.set_cons_succ])
          have hi:=getopN hO 5 (by decide)
          conv at hi=>rhs;arg 1;whnf
          refine anyE_takeWV hO (v:=?_) 5 hi (by kernel_rfl) (by kernel_rfl) (by kernel_rfl) (by kernel_rfl) (fun _ _ _ h=>h) (Or.inl ⟨by rfl,?_⟩) (by assumption) ?_
          rotate_left
          ·((intro w');(try go_simp);(try with_reducible rfl))
          clear hi
          (try simp only [Act.put,List.setIfInBounds_toArray,List.set_cons_zero,List.set_cons_succ])
          have hi:=getopN hO 6 (by decide)
          conv at hi=>rhs;arg 1;whnf
          refine anyE_takeV hO (v:=?_) 6 hi (by kernel_rfl) (by kernel_rfl) (by kernel_rfl) (by kernel_rfl) (fun _ _ _ h=>h) (Or.inl ⟨by rfl,?_⟩) (by assumption) ?_
          rotate_left
          ·((intro w' hSw);(try dsimp only at hSw);(try go_simp);(try with_reducible rfl))
          clear hi
          (try simp only [Act.put,List.setIfInBounds_toArray,List.set_cons_zero,List.set_cons_succ])
          have hi:=getopN hO 7 (by decide)
          conv at hi=>rhs;arg 1;whnf
          refine anyE_takeWV hO (v:=?_) 7 hi (by kernel_rfl) (by kernel_rfl) (by kernel_rfl) (by kernel_rfl) (fun _ _ _ h=>h) (Or.inl ⟨by rfl,?_⟩) (by assumption) ?_
          rotate_left
          ·((intro w');(try go_simp);(try with_reducible rfl))
          clear hi
          (try simp only [Act.put,List.setIfInBounds_toArray,List.set_cons_zero,List.set_cons_succ])
          have hi:=getopN hO 8 (by decide)
          conv at hi=>rhs;arg 1;whnf
          refine anyE_takeWV hO (v:=?_) 8 hi (by kernel_rfl) (by kernel_rfl) (by kernel_rfl) (by kernel_rfl) (fun _ _ _ h=>h) (Or.inl ⟨by rfl,?_⟩) (by assumption) ?_
          rotate_left
          ·((intro w');(try go_simp);(try with_reducible rfl))
          clear hi
          (try simp only [Act.put,List.setIfInBounds_toArray,List.set_cons_zero,List.set_cons_succ])
          have hi:=getopN hO 9 (by decide)
          conv at hi=>rhs;arg 1;whnf
          refine anyE_takeWV hO (v:=?_) 9 hi (by kernel_rfl) (by kernel_rfl) (by kernel_rfl) (by kernel_rfl) (fun _ _ _ h=>h) (Or.inl ⟨by rfl,?_⟩) (by assumption) ?_
          rotate_left
          ·((intro w');(try go_simp);(try with_reducible rfl))
          clear hi
          (try simp only [Act.put,List.setIfInBounds_toArray,List.set_cons_zero,List.set_cons_succ])
          have hi:=getopN hO 10 (by decide)
          conv at hi=>rhs;arg 1;whnf
          refine anyE_takeV hO (v:=?_) 10 hi (by kernel_rfl) (by kernel_rfl) (by kernel_rfl) (by kernel_rfl) (fun _ _ _ h=>h) (Or.inl ⟨by rfl,?_⟩) (by assumption) ?_
          rotate_left
          ·((intro w' hSw);(try dsimp only at hSw);(try go_simp);(try with_reducible rfl))
          clear hi
          (try simp only [Act.put,List.setIfInBounds_toArray,List.set_cons_zero,List.set_cons_succ])
          have hi:=getopN hO 11 (by decide)
          conv at hi=>rhs;arg 1;whnf
          refine anyE_takeWV hO (v:=?_) 11 hi (by kernel_rfl) (by kernel_rfl) (by kernel_rfl) (by kernel_rfl) (fun _ _ _ h=>h) (Or.inl ⟨by rfl,?_⟩) (by assumption) ?_
          rotate_left
          ·((intro w');(try go_simp);(try with_reducible rfl))
          clear hi
          (try simp only [Act.put,List.setIfInBounds_toArray,List.set_cons_zero,List.set_cons_succ])
          have hi:=getopN hO 12 (by decide)
          conv at hi=>rhs;arg 1;whnf
          refine anyE_takeWV hO (v:=?_) 12 hi (by kernel_rfl) (by kernel_rfl) (by kernel_rfl) (by kernel_rfl) (fun _ _ _ h=>h) (Or.inl ⟨by rfl,?_⟩) (by assumption) ?_
          rotate_left
          ·((intro w');(try go_simp);(try with_reducible rfl))
          clear hi
          (try simp only [Act.put,List.setIfInBounds_toArray,List.set_cons_zero,List.set_cons_succ])
          have hi:=getopN hO 13 (by decide)
          conv at hi=>rhs;arg 1;whnf
          refine anyE_takeV hO (v:=?_) 13 hi (by kernel_rfl) (by kernel_rfl) (by kernel_rfl) (by kernel_rfl) (fun _ _ _ h=>h) (Or.inl ⟨by rfl,?_⟩) (by assumption) ?_
          rotate_left
          ·((intro w' hSw);(try dsimp only at hSw);(try go_simp);(try with_reducible rfl))
          clear hi
          (try simp only [Act.put,List.setIfInBounds_toArray,List.set_cons_zero,List.set_cons_succ])
          have hi:=getopN hO 14 (by decide)
          conv at hi=>rhs;arg 1;whnf
          refine anyE_stepV hO 14 (by kernel_rfl) hi (fun K hK=>?_)
          go_simp
          (go_at_call 94;refine (HDM.out _ (HPW.out _ (HGJ.out.ext (hHeld.2.2.2.2.out)))).mono ?_)
          rintro e w5 ⟨rfl,hEz⟩
          go_wp2_with fail
          refine hK.out _ _ ⟨(hEz).cell hHeld.1,(hEz).cell hHeld.2.1,(hEz).cell hHeld.2.2.1,(hEz).cell hHeld.2.2.2.1,Ext.trans hHeld.2.2.2.2.out (hEz)⟩ (fun hHeld=>?_)
          clear hK K hi
          (try simp only [Act.put,List.setIfInBounds_toArray,List.set_cons_zero,List.set_cons_succ])
          have hi:=getopN hO 15 (by decide)
          conv at hi=>rhs;arg 1;whnf
          refine anyE_takeWV hO (v:=?_) 15 hi (by kernel_rfl) (by kernel_rfl) (by kernel_rfl) (by kernel_rfl) (fun _ _ _ h=>h) (Or.inl ⟨by rfl,?_⟩) (by assumption) ?_
          rotate_left
          ·((intro w');(try go_simp);(try with_reducible rfl))
          clear hi
          (try simp only [Act.put,List.setIfInBounds_toArray,List.set_cons_zero,List.set_cons_succ])
          have hi:=getopN hO 16 (by decide)
          conv at hi=>rhs;arg 1;whnf
          refine anyE_takeWV hO (v:=?_) 16 hi (by kernel_rfl) (by kernel_rfl) (by kernel_rfl) (by kernel_rfl) (fun _ _ _ h=>h) (Or.inl ⟨by rfl,?_⟩) (by assumption) ?_
          rotate_left
          ·((intro w');(try go_simp);(try with_reducible rfl))
          clear hi
          (try simp only [Act.put,List.setIfInBounds_toArray,List.set_cons_zero,List.set_cons_succ])
          have hi:=getopN hO 17 (by decide)
          conv at hi=>rhs;arg 1;whnf
          refine anyE_takeWV hO (v:=?_) 17 hi (by kernel_rfl) (by kernel_rfl) (by kernel_rfl) (by kernel_rfl) (fun _ _ _ h=>h) (Or.inl ⟨by rfl,?_⟩) (by assumption) ?_
          rotate_left
          ·((intro w');(try go_simp);(try with_reducible rfl))
          clear hi
          (try simp only [Act.put,List.setIfInBounds_toArray,List.set_cons_zero,List.set_cons_succ])
          have hi:=getopN hO 18 (by decide)
          conv at hi=>rhs;arg 1;whnf
          refine anyE_takeWV hO (v:=?_) 18 hi (by kernel_rfl) (by kernel_rfl) (by kernel_rfl) (by kernel_rfl) (fun _ _ _ h=>h) (Or.inl ⟨by rfl,?_⟩) (by assumption) ?_
          rotate_left
          ·((intro w');(try go_simp);(try with_reducible rfl))
          clear hi
          (try simp only [Act.put,List.setIfInBounds_toArray,List.set_cons_zero,List.set_cons_succ])
          have hi:=getopN hO 19 (by decide)
          conv at hi=>rhs;arg 1;whnf
          refine anyE_takeWV hO (v:=?_) 19 hi (by kernel_rfl) (by kernel_rfl) (by kernel_rfl) (by kernel_rfl) (fun _ _ _ h=>h) (Or.inl ⟨by rfl,?_⟩) (by assumption) ?_
          rotate_left
          ·((intro w');(try go_simp);(try with_reducible rfl))
          clear hi
          (try simp only [Act.put,List.setIfInBounds_toArray,List.set_cons_zero,List.set_cons_succ])
          have hi:=getopN hO 20 (by decide)
          conv at hi=>rhs;arg 1;whnf
          refine anyE_takeWV hO (v:=?_) 20 hi (by kernel_rfl) (by kernel_rfl) (by kernel_rfl) (by kernel_rfl) (fun _ _ _ h=>h) (Or.inl ⟨by rfl,?_⟩) (by assumption) ?_
          rotate_left
          ·((intro w');(try go_simp);(try with_reducible rfl))
          clear hi
          (try simp only [Act.put,List.setIfInBounds_toArray,List.set_cons_zero,List.set_cons_succ])
          have HE5:Hid (Ext w4 w5):=hHeld.2.2.2.2
          have hi:=getopN hO 21 (by decide)
          conv at hi=>rhs;arg 1;whnf
          refine anyE_lastV hO 21 (by kernel_rfl) (by kernel_rfl) hi (fun K hK=>?_)
          go_simp
          refine hK.out _ _ (by assumption) ?_
          clear hK K hi hO
          (try simp only [Act.put,List.setIfInBounds_toArray,List.set_cons_zero,List.set_cons_succ])
          go_upto_region 16 with fail
          obtain ⟨w6,hw6⟩:∃ w6,w6=w5:=⟨_,rfl⟩
          rw [← hw6]
          have HE6:Hid (Ext w4 w6):=by rw [hw6];exact HE5.out
          have b7:=HE6.out.cell b1
          have p7:=HE6.out.cell p1
          clear hw6 HDM
          refine region_anyE (fun w'=>w'.cell? ⟨g0,i4,none⟩=some (.slice (some ⟨t4.1,t4.2.1,none⟩) n t4.2.2)∧w'.cell? ⟨g0,d,none⟩=some (.slice (some ⟨tp.1,tp.2.1,none⟩) n tp.2.2)∧Hid (Ext w6 w')) 13 (by kernel_rfl) ⟨(Ext.drew w6).cell b7,(Ext.drew w6).cell p7,Ext.drew w6⟩ (fun hHeld=>?_)
          refine anyE_takeW (v:=?_) 0 rfl (by kernel_rfl) (by kernel_rfl) (by kernel_rfl) (by decide) (fun _ _ _ h=>h) (Or.inl ⟨by rfl,?_⟩) (by assumption) ?_
          rotate_left
          ·((intro w');(try go_simp);(try with_reducible rfl))
          (try simp only [Act.put,List.setIfInBounds_toArray,List.set_cons_zero,List.set_cons_succ])
          refine anyE_takeW (v:=?_) 1 rfl (by kernel_rfl) (by kernel_rfl) (by kernel_rfl) (by decide) (fun _ _ _ h=>h) (Or.inl ⟨by rfl,?_⟩) (by assumption) ?_
          rotate_left
          ·((intro w');(try go_simp);(try with_reducible rfl))
          (try simp only [Act.put,List.setIfInBounds_toArray,List.set_cons_zero,List.set_cons_succ])
          refine anyE_takeW (v:=?_) 2 rfl (by kernel_rfl) (by kernel_rfl) (by kernel_rfl) (by decide) (fun _ _ _ h=>h) (Or.inl ⟨by rfl,?_⟩) (by assumption) ?_
          rotate_left
          ·((intro w');(try go_simp);(try with_reducible rfl))
          (try simp only [Act.put,List.setIfInBounds_toArray,List.set_cons_zero,List.set_cons_succ])
          refine anyE_takeW (v:=?_) 3 rfl (by kernel_rfl) (by kernel_rfl) (by kernel_rfl) (by decide) (fun _ _ _ h=>h) (Or.inl ⟨by rfl,?_⟩) (by assumption) ?_
          rotate_left
          ·((intro w');(try go_simp);(try with_reducible rfl))
          (try simp only [Act.put,List.setIfInBounds_toArray,List.set_cons_zero,List.set_cons_succ])
          refine anyE_takeW (v:=?_) 4 rfl (by kernel_rfl) (by kernel_rfl) (by kernel_rfl) (by decide) (fun _ _ _ h=>h) (Or.inl ⟨by rfl,?_⟩) (by assumption) ?_
          rotate_left
          ·((intro w');(try go_simp);(try with_reducible rfl))
          (try simp only [Act.put,List.setIfInBounds_toArray,List.set_cons_zero,List.set_cons_succ])
          refine anyE_take (v:=?_) 5 rfl (by kernel_rfl) (by kernel_rfl) (by kernel_rfl) (by kernel_rfl) (by kernel_rfl) (fun _ _ _ h=>h) (Or.inl ⟨by rfl,?_⟩) (by assumption) ?_
          rotate_left
          ·((intro w' hSw);(try dsimp only at hSw);(try go_simp);(try with_reducible rfl))
          (try simp only [Act.put,List.setIfInBounds_toArray,List.set_cons_zero,List.set_cons_succ])
          refine anyE_takeW (v:=?_) 6 rfl (by kernel_rfl) (by kernel_rfl) (by kernel_rfl) (by decide) (fun _ _ _ h=>h) (Or.inl ⟨by rfl,?_⟩) (by assumption) ?_
          rotate_left
          ·((intro w');(try go_simp);(try with_reducible rfl))
          (try simp only [Act.put,List.setIfInBounds_toArray,List.set_cons_zero,List.set_cons_succ])
          refine anyE_takeW (v:=?_) 7 rfl (by kernel_rfl) (by kernel_rfl) (by kernel_rfl) (by decide) (fun _ _ _ h=>h) (Or.inl ⟨by rfl,?_⟩) (by assumption) ?_
          rotate_left
          ·((intro w');(try go_simp);(try with_reducible rfl))
          (try simp only [Act.put,List.setIfInBounds_toArray,List.set_cons_zero,List.set_cons_succ])
          refine anyE_takeW (v:=?_) 8 rfl (by kernel_rfl) (by kernel_rfl) (by kernel_rfl) (by decide) (fun _ _ _ h=>h) (Or.inl ⟨by rfl,?_⟩) (by assumption) ?_
          rotate_left
          ·((intro w');(try go_simp);(try with_reducible rfl))
          (try simp only [Act.put,List.setIfInBounds_toArray,List.set_cons_zero,List.set_cons_succ])
          refine anyE_take (v:=?_) 9 rfl (by kernel_rfl) (by kernel_rfl) (by kernel_rfl) (by kernel_rfl) (by kernel_rfl) (fun _ _ _ h=>h) (Or.inl ⟨by rfl,?_⟩) (by assumption) ?_
          rotate_left
          ·((intro w' hSw);(try dsimp only at hSw);(try go_simp);(try with_reducible rfl))
          (try simp only [Act.put,List.setIfInBounds_toArray,List.set_cons_zero,List.set_cons_succ])
          refine anyE_takeW (v:=?_) 10 rfl (by kernel_rfl) (by kernel_rfl) (by kernel_rfl) (by decide) (fun _ _ _ h=>h) (Or.inl ⟨by rfl,?_⟩) (by assumption) ?_
          rotate_left
          ·((intro w');(try go_simp);(try with_reducible rfl))
          (try simp only [Act.put,List.setIfInBounds_toArray,List.set_cons_zero,List.set_cons_succ])
          have HE7:Hid (Ext w4 w6.drew):=HE6.out.trans (Ext.drew _)
          refine anyE_step 11 (by kernel_rfl) rfl (fun K hK=>?_)
          go_simp
          (go_at_call 137;refine (HLS.out _ HE7.out).mono ?_)
          rintro e w8 ⟨rfl,hEz,hRz⟩
          go_wp2_with fail
          refine hK.out _ _ ⟨(hEz).cell hHeld.1,(hEz).cell hHeld.2.1,Ext.trans hHeld.2.2.out (hEz)⟩ (fun hHeld=>?_)
          clear hK K
          (try simp only [Act.put,List.setIfInBounds_toArray,List.set_cons_zero,List.set_cons_succ])
          refine anyE_takeW (v:=?_) 12 rfl (by kernel_rfl) (by kernel_rfl) (by kernel_rfl) (by decide) (fun _ _ _ h=>h) (Or.inl ⟨by rfl,?_⟩) (by assumption) ?_
          rotate_left
          ·((intro w');(try go_simp);(try with_reducible rfl))
          (try simp only [Act.put,List.setIfInBounds_toArray,List.set_cons_zero,List.set_cons_succ])
          have HE8:Hid (Ext w4 w8):=HE6.out.trans hHeld.2.2.out
          have q8:=HE8.out.cell b1
          have f8:w8.frozen? ⟨g0,i4,none⟩=false:=(HMJ.out.ext HE8.out).free i4
          refine anyE_last 13 (by kernel_rfl) (by kernel_rfl) (by kernel_rfl) rfl (fun K hK=>?_)
          go_simp
          refine hK.out _ _ ?_
          clear hK K
          (try simp only [Act.put,List.setIfInBounds_toArray,List.set_cons_zero,List.set_cons_succ])
          have HRZ:Hid (RowB w8 w6.heap.size 0 nr):=hRz
          have HM9:Hid (MatB (w8.setCell ⟨g0,i4,none⟩ (.slice (some ⟨w6.heap.size,0,none⟩) n n)) g0 (tj.set i4 (w6.heap.size,0,n)) (mj.set i4 nr)):=by
           have h9:=HMJ.out.newRow i4 HMJL.out (w6.heap.size,0,n) nr HE8.out HRZ.out HE7.out.size (by rw [HNL.out];exact Nat.le_refl _) (by show n≤maxLen;unfold maxLen;omega)
           rw [HNL.out] at h9
           exact h9
          have HG9:Hid (GrownS (·=g0) w (w8.setCell ⟨g0,i4,none⟩ (.slice (some ⟨w6.heap.size,0,none⟩) n n))):=(HGJ.out.ext HE8.out).setCell rfl _ _
          have HT9:Hid (NewTags tags w.heap.size (tj.set i4 (w6.heap.size,0,n))):=fun t ht=>by
           rcases List.mem_or_eq_of_mem_set ht with h | h
           ·exact HTJ.out t h
           ·rw [h];exact .inr (Nat.le_trans HGJ.out.size HE7.out.size)
          have hcell:(w8.setCell ⟨g0,i4,none⟩ (.slice (some ⟨w6.heap.size,0,none⟩) n n)).cell? ⟨w6.heap.size,c,none⟩=some (.string (intB (fdr xe ye))):=by
           have h9:=(HRZ.out.other g0 i4 (.slice (some ⟨w6.heap.size,0,none⟩) n n) (by have:=HMJ.out.lt;have:=HE6.out.size;omega)).cell c _ HNW.out
           rw [Nat.zero_add] at h9
           exact h9
          have hcell2:(w8.setCell ⟨g0,i4,none⟩ (.slice (some ⟨w6.heap.size,0,none⟩) n n)).cell? ⟨g0,i4,none⟩=some (.slice (some ⟨w6.heap.size,0,none⟩) n n):=World.cell?_setCell_same _ _ _ q8
          obtain ⟨w9,hw9⟩:∃ w9,w8.setCell ⟨g0,i4,none⟩ (.slice (some ⟨w6.heap.size,0,none⟩) n n)=w9:=⟨_,rfl⟩
          rw [hw9] at HM9 HG9 hcell hcell2 ⊢
          obtain ⟨gn,hgn⟩:∃ gn,w6.heap.size=gn:=⟨_,rfl⟩
          rw [hgn] at hcell hcell2 HM9 HT9
          clear hw9 hgn q8 f8 b1 p1 b6 p6 b7 p7 HLS HRZ hRz hz hHeld
          by_cases hf0:fdr xe ye=0
          ·rw [decide_eq_true hf0] at hfm
           have HRJ:Hid ((rj || decide (fdr xe ye≠0))=rj):=by unfold Hid;rw [decide_eq_false (by simp [hf0]),Bool.or_false]
           rw [HRJ.out] at HST
           clear hf0 HRJ
           cases rj
           all_goals
            go_wp2_with fail
            go_roundw
            case rel=>exact ⟨i4+1,mj.set i4 nr,_,_,by omega,by omega,by go_num,rfl,HG9.out,HM9.out,HST.out,HT9.out⟩
            case measure=>simp [intOf];omega
          ·rw [decide_eq_false hf0] at hfm
           have HRJ:Hid ((rj || decide (fdr xe ye≠0))=true):=by unfold Hid;rw [decide_eq_true hf0,Bool.or_true]
           rw [HRJ.out] at HST
           clear hf0 HRJ
           cases rj
           all_goals
            go_wp2_with fail
            go_roundw
            case rel=>exact ⟨i4+1,mj.set i4 nr,true,_,by omega,by omega,by go_num,rfl,HG9.out,HM9.out,HST.out,HT9.out⟩
            case measure=>simp [intOf];omega
        ·obtain rfl:i4=i:=by omega
         have hmf:mj=mf∧rj=rf:=by
          have:=HDJ.out;rw [HDN.out] at this
          simp only [Option.some.injEq,Prod.mk.injEq] at this
          exact ⟨this.1.symm,this.2.symm⟩
         obtain ⟨rfl,rfl⟩:=hmf
         have hSE:=HSE.out
         clear HSE HDN HDJ kl1 kl2 kl3 HLS0 HOKS HF4 HG4
         cases rj with
         | true =>
          try dsimp only at hSE
          have HSE2:=Lib.hid hSE
          clear hSE
          go_wp2_with fail
          go_roundg f
          case measure=>omega
          case rel=>exact ⟨mj,tj,HGJ.out,HMJ.out,HLJ.out,HSE2.out,HTJ.out⟩
         | false =>
          try dsimp only at hSE
          obtain rfl:=Option.some.inj hSE
          clear hSE
          go_wp2_with fail
          go_ret
          exact ⟨rfl,tj,HMJ.out,HTJ.out,HGJ.out⟩
  ·rw [if_neg hokm] at hS;cases hS
end Go.Proofs.YtjlkkofmojgipaaGreatDoor
