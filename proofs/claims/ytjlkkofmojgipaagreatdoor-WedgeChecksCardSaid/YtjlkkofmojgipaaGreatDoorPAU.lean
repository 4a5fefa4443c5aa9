import Derived.Test.YtjlkkofmojgipaaGreatDoorPAT
import Derived.Lib.SliceRun
import Derived.WalkSpells
import Derived.Test.YtjlkkofmojgipaaGreatDoorPAQ
import Derived.Laws.AppendOwnNone
import Derived.Test.YtjlkkofmojgipaaGreatDoorPAF
import Derived.Shelf.Spec.TrailingZeros
import Derived.Lib.LaidTab
import Derived.WalkSmall
namespace Go.Proofs.YtjlkkofmojgipaaGreatDoor
set_option linter.unusedVariables false
set_option linter.unusedSimpArgs false
open Go.RowKit
def txtR (_:World) (v:Value) (a:ByteArray):Prop:=v=.string a
abbrev Txts (w:World) (v:Value) (L:List ByteArray):Prop:=ListAt 1 (inCell txtR) w v L
theorem txtR.mono':Mono (inCell txtR):=inCell.mono fun _ _ _ _ _ h=>h
theorem Txts.ext {w w':World} {v:Value} {L:List ByteArray} (h:Txts w v L) (he:Ext w w'):Txts w' v L:=ListAt.ext txtR.mono' h he
def TxtV (w:World) (v:Value) (n k:Int) (L:List ByteArray):Prop:=∃ r,v=.agg #[.int .i64 n,.int .i64 k,r]∧Txts w r L
theorem TxtV.ext {w w':World} {v:Value} {n k:Int} {L:List ByteArray} (h:TxtV w v n k L) (he:Ext w w'):TxtV w' v n k L:=by
 obtain ⟨r,h1,h2⟩:=h;exact ⟨r,h1,h2.ext he⟩
def chkX (n k:Int) (L:List ByteArray):Int:=if gradeS n k≠0 then 3 else if L.length≠(allW n.toNat k.toNat).length then 5 else if L.all rightB=true then 0 else 2
theorem gradeS_two (n k:Int):gradeS n k=0∨gradeS n k=3:=by unfold gradeS;split <;> simp
theorem gradeS_zero {n k:Int} (h:gradeS n k=0):∃ a b:Nat,n=a∧k=b∧a≤12∧b≤a:=by
 unfold gradeS at h
 split at h
 ·cases h
 ·exact ⟨n.toNat,k.toNat,by omega,by omega,by omega,by omega⟩
theorem chkX_zero {n k:Int} {L:List ByteArray} (h:chkX n k L=0):∃ (a b:Nat) (X:List Int),n=a∧k=b∧a≤12∧b≤a∧L=X.map intB∧X.length=(allW a b).length∧Digits400 X∧∀ s,(∀ t∈L,t.size≤s)→∀ x∈X,x.natAbs<10^s:=by
 unfold chkX at h
 split at h
 ·cases h
 ·rename_i hg
  split at h
  ·cases h
  ·rename_i hl
   split at h
   ·rename_i hr
    obtain ⟨a,b,rfl,rfl,ha,hb⟩:=gradeS_zero (Decidable.not_not.1 hg)
    simp only [Int.toNat_natCast,ne_eq,Decidable.not_not] at hl
    have hex:∀ L:List ByteArray,L.all rightB=true→∃ X:List Int,L=X.map intB∧Digits400 X∧∀ s,(∀ t∈L,t.size≤s)→∀ x∈X,x.natAbs<10^s:=by
     intro L
     induction L with
     | nil=>intro _;exact ⟨[],rfl,fun x hx=>absurd hx List.not_mem_nil,by simp⟩
     | cons t r ih =>
      intro h
      rw [List.all_cons,Bool.and_eq_true] at h
      obtain ⟨x,hx,h4,hs⟩:=right_int h.1
      obtain ⟨X,hX,hX4,hXs⟩:=ih h.2
      refine ⟨x::X,by rw [List.map_cons,← hx,← hX],fun y hy=>?_,fun s hts y hy=>?_⟩
      ·rcases List.mem_cons.1 hy with rfl | hy
       ·exact h4
       ·exact hX4 y hy
      ·rcases List.mem_cons.1 hy with rfl | hy
       ·exact Nat.lt_of_lt_of_le hs (Nat.pow_le_pow_right (by decide) (hts t (by simp)))
       ·exact hXs s (fun t ht=>hts t (List.mem_cons_of_mem _ ht)) y hy
    obtain ⟨X,hX,h4,hs⟩:=hex L hr
    exact ⟨a,b,X,rfl,rfl,ha,hb,hX,by rw [← hl,hX,List.length_map],h4,hs⟩
   ·cases h
theorem txt_list {w:World} {n k:Int} {r:Value} {L:List ByteArray} (h:TxtV w (.agg #[.int .i64 n,.int .i64 k,r]) n k L):Txts w r L:=by
 obtain ⟨r',h1,h2⟩:=h
 simp only [Value.agg.injEq,Array.mk.injEq,List.cons.injEq,true_and,and_true] at h1
 rw [h1];exact h2
theorem txts_nums {w:World} {v:Value} {X:List Int} (h:Txts w v (X.map intB)):ListAt 1 numC w v X:=by
 obtain ⟨us,h1,h2,h3,h4⟩:=h
 rw [List.length_map] at h1 h3
 refine ⟨us,h1,h2,h3,fun j u x hu hx=>?_⟩
 obtain ⟨s,hs,hs2⟩:=h4 j u (intB x) hu (by rw [List.getElem?_map,hx];rfl)
 rw [hs,hs2];rfl
set_option maxRecDepth 100000 in
set_option maxHeartbeats 4000000 in
theorem checkT_any (n k:Int) (L:List ByteArray) (u:Value) (w:World) (h:TxtV w u n k L) (hs:∀ a∈L,a.size≤100000) :
  Calls Tryz.prog 47 #[u] w fun e w'=>e=.returned (.int .i64 (chkX n k L))∧Ext w w':=by
 obtain ⟨r,rfl,hr⟩:=h
 obtain ⟨a,c,rfl,h1,h2,-,hc⟩:=inCell.open hr
 unfold maxLen at h2
 obtain ⟨w1,hw1⟩:∃ w1,w.alloc (.cells #[.int .i64 n,.int .i64 k,.slice a L.length c] 31)=w1:=⟨_,rfl⟩
 have hb1:w1.heap[w.heap.size]?=some (.cells #[.int .i64 n,.int .i64 k,.slice a L.length c] 31 (0,0)):=by rw [← hw1];exact block_new w _ _
 have hE1:Ext w w1:=by rw [← hw1];exact Ext.alloc _ _
 have HG:=Lib.hid (checkGrade_any n k w1)
 have HW:Hid (∀ x∈L,∀ W,Calls Tryz.prog 96 #[.string x] W fun e w'=>e=.returned (.int .i64 (wE x))∧Ext W w'):=fun x hx W=>wholeCheckT_any x W (hs x hx)
 have HC:=Lib.hid hc
 have k1:=block_cell hb1
 have HB:=Lib.hid hb1
 have HE1:=Lib.hid hE1
 rcases gradeS_two n k with hg | hg
 rotate_left
 ·have HV:Hid (chkX n k L=3):=if_pos (by rw [hg];decide)
  rw [hg] at HG
  clear hb1 hE1 hr hc hs hg
  go_enter Tryz.func47,Tryz.ntmps47
  go_wp2_with fail
  refine HG.out.mono ?_
  rintro e w2 ⟨rfl,hE2⟩
  have HE2:Hid (Ext w w2):=HE1.out.trans hE2
  clear hE2 HG k1 hw1
  go_wp2_with fail
  go_ret
  exact ⟨by rw [HV.out];rfl,HE2.out⟩
 obtain ⟨N,K,rfl,rfl,hN,hK⟩:=gradeS_zero hg
 have HV:Hid (chkX N K L=if L.length≠(allW N K).length then 5 else if L.all rightB=true then 0 else 2):=by
  unfold Hid chkX;rw [if_neg (by rw [hg];decide),Int.toNat_natCast,Int.toNat_natCast]
 rw [hg] at HG
 obtain ⟨m,hm⟩:∃ m,(allW N K).length=m:=⟨_,rfl⟩
 rw [hm] at HV
 have HA:Hid (∀ W,Calls Tryz.prog 60 #[.int .i64 (N:Int),.int .i64 (K:Int)] W fun e w'=>∃ a6 c6,e=.returned (.slice a6 m c6)∧Ext W w'):=fun W=>(all_any N K hN hK W).mono fun e w' ⟨v,h1,h2,h3⟩=>by
  obtain ⟨a6,c6,rfl,-⟩:=h3.open
  rw [hm] at h1
  exact ⟨a6,c6,h1,h2⟩
 have hm9:m≤924:=by rw [← hm];exact allW_len hN hK
 obtain ⟨l,hl⟩:∃ l,L.length=l:=⟨_,rfl⟩
 have HL:Hid (L.length=l):=hl
 rw [hl] at k1 h1 HB hw1 HV ⊢
 have hcmp:((l:Int) != (m:Int))=decide (l≠m):=by rw [Bool.eq_iff_iff,bne_iff_ne,decide_eq_true_eq];omega
 clear hb1 hE1 hr hc hg hl hm hs
 go_enter Tryz.func47,Tryz.ntmps47
 go_wp2_with fail
 refine HG.out.mono ?_
 rintro e w2 ⟨rfl,hE2⟩
 have hb2:=block_ext HB.out hE2
 have d0:=block_cell hb2 0;have d1:=block_cell hb2 1;have d2:=block_cell hb2 2
 simp only [List.getElem?_toArray,List.getElem?_cons_succ,List.getElem?_cons_zero] at d0 d1 d2
 have HE2:Hid (Ext w w2):=HE1.out.trans hE2
 clear hE2 HG k1 hw1 hb2
 go_wp2_with fail
 have z1:w2.drew.cell? ⟨w.heap.size,0,none⟩=some (.int .i64 N):=d0
 have z2:w2.drew.cell? ⟨w.heap.size,1,none⟩=some (.int .i64 K):=d1
 have z3:w2.drew.cell? ⟨w.heap.size,2,none⟩=some (.slice a l c):=d2
 have z4:Hid (Ext w w2.drew):=HE2.out.trans (Ext.drew _)
 clear d0 d1 d2
 by_cases hlm:l=m
 rotate_left
 ·have HV5:Hid (chkX N K L=5):=by unfold Hid;rw [HV.out,if_pos hlm]
  have hq:((l:Int) != (m:Int))=true:=by rw [hcmp];exact decide_eq_true hlm
  clear hcmp HV
  go_region_held3 (fun w'=>w'.cell? ⟨w.heap.size,0,none⟩=some (.int .i64 N)∧w'.cell? ⟨w.heap.size,1,none⟩=some (.int .i64 K)∧w'.cell? ⟨w.heap.size,2,none⟩=some (.slice a l c)∧Hid (Ext w w'))
   (first | exact ⟨z1,z2,z3,z4⟩ | go_keep)
   (first
    | (go_at_call 60;with_reducible refine (HA.out _).mono ?_;rintro e w6 ⟨a6,c6,rfl,hE6⟩;have q1:=hE6.cell (a:=⟨w.heap.size,0,none⟩) (v:=.int .i64 N) (by assumption);have q2:=hE6.cell (a:=⟨w.heap.size,1,none⟩) (v:=.int .i64 K) (by assumption);have q3:=hE6.cell (a:=⟨w.heap.size,2,none⟩) (v:=.slice a l c) (by assumption);have q4:=Lib.hid (Ext.trans (Hid.out (p:=Ext w _) (by assumption)) hE6);(try clear z1 z2 z3 z4);have z1:=q1;have z2:=q2;have z3:=q3;have z4:=q4;clear hE6 q1 q2 q3 q4))
  all_goals
   go_wp2_with fail
   go_ret
   exact ⟨by rw [HV5.out];rfl,z4.out⟩
 have HVR:Hid (chkX N K L=if L.all rightB=true then 0 else 2):=by unfold Hid;rw [HV.out,if_neg (fun e=>e hlm)]
 have hq:((l:Int) != (m:Int))=false:=by rw [hcmp];exact decide_eq_false (fun e=>e hlm)
 clear hcmp HV
 obtain rfl:=hlm.symm
 clear hlm
 go_region_held3 (fun w'=>w'.cell? ⟨w.heap.size,0,none⟩=some (.int .i64 N)∧w'.cell? ⟨w.heap.size,1,none⟩=some (.int .i64 K)∧w'.cell? ⟨w.heap.size,2,none⟩=some (.slice a m c)∧Hid (Ext w w'))
  (first | exact ⟨z1,z2,z3,z4⟩ | go_keep)
  (first
   | (go_at_call 60;with_reducible refine (HA.out _).mono ?_;rintro e w6 ⟨a6,c6,rfl,hE6⟩;have q1:=hE6.cell (a:=⟨w.heap.size,0,none⟩) (v:=.int .i64 N) (by assumption);have q2:=hE6.cell (a:=⟨w.heap.size,1,none⟩) (v:=.int .i64 K) (by assumption);have q3:=hE6.cell (a:=⟨w.heap.size,2,none⟩) (v:=.slice a m c) (by assumption);have q4:=Lib.hid (Ext.trans (Hid.out (p:=Ext w _) (by assumption)) hE6);(try clear z1 z2 z3 z4);have z1:=q1;have z2:=q2;have z3:=q3;have z4:=q4;clear hE6 q1 q2 q3 q4))
 all_goals
  go_wp2_with fail
  have Z3:=Lib.hid z3
  clear z1 z2 z3
  go_loopw [28] (fun t wr=>∃ j:Nat,j≤m∧t=.int .i64 j∧Hid (Ext w wr)∧Hid (wr.cell? ⟨w.heap.size,2,none⟩=some (.slice a m c))∧Hid ((L.take j).all rightB=true)) (fun t _=>m+1-(intOf t).toNat)
  case atStart=>exact ⟨0,by omega,rfl,z4.out,Z3.out,by first | rfl | trivial⟩
  case round =>
   obtain ⟨j,hj,rfl,HX,HD,HR⟩:=hrel
   by_cases hlt:j<m
   ·obtain ⟨x,hx⟩:∃ x,L[j]?=some x:=⟨_,List.getElem?_eq_getElem (by have:=HL.out;omega)⟩
    obtain ⟨b,off,rfl,hb,hcell⟩:=HC.out (by intro e;rw [e] at hx;simp at hx)
    obtain ⟨z9,e1,g1⟩:=hcell j x hx
    obtain rfl:z9=.string x:=e1
    have g1:=HX.out.cell g1
    have q1:(j:Int)<(m:Int):=by omega
    have HK:=Lib.hid (HW.out x (List.mem_of_getElem? hx))
    have HXX:=Lib.hid hx
    clear hcell hx hb
    by_cases hri:rightB x=true
    ·have hv:wE x=0:=if_pos hri
     rw [hv] at HK
     have HRI:=Lib.hid hri
     clear hv hri
     go_wp2_with fail
     refine (HK.out _).mono ?_
     rintro e w7 ⟨rfl,h7⟩
     have HX7:Hid (Ext w w7):=HX.out.trans h7
     have HD7:=Lib.hid (h7.cell HD.out)
     clear h7 HK
     go_wp2_with fail
     go_roundw
     case rel=>exact ⟨j+1,by omega,by go_num,HX7.out,HD7.out,by unfold Hid;rw [List.take_add_one,HXX.out,List.all_append,HR.out];simp [HRI.out]⟩
     case measure=>simp [intOf];omega
    ·have hv:wE x=2:=if_neg hri
     rw [hv] at HK
     have HV2:Hid (chkX N K L=2):=by
      unfold Hid
      rw [HVR.out,if_neg]
      intro e
      exact hri (List.all_eq_true.1 e x (List.mem_of_getElem? HXX.out))
     clear hv hri
     go_wp2_with fail
     refine (HK.out _).mono ?_
     rintro e w7 ⟨rfl,h7⟩
     have HX7:Hid (Ext w w7):=HX.out.trans h7
     clear h7 HK
     go_wp2_with fail
     go_ret
     exact ⟨by rw [HV2.out];rfl,HX7.out⟩
   ·obtain rfl:j=m:=by omega
    have HV0:Hid (chkX N K L=0):=by
     unfold Hid
     have:=HR.out
     rw [List.take_of_length_le (by have:=HL.out;omega)] at this
     rw [HVR.out,if_pos this]
    go_wp2_with fail
    go_ret
    exact ⟨by rw [HV0.out];rfl,HX.out⟩
theorem int_zeroW (x:Int):((intB x).toList == [48])=decide (x=0):=by
 have h:=int_same x 0
 have e:(intB 0).toList=[48]:=by decide +kernel
 rw [e] at h;exact h
set_option maxRecDepth 100000 in
set_option maxHeartbeats 1000000 in
theorem zeroM_any {n k:Nat} {X:List Int} (hd:Digits400 X) (u:Value) (w:World) (h:MultiV w u n k X) (ht:Pow10 w) :
  Calls Tryz.prog 79 #[u] w fun e w'=>e=.returned (.bool (decide (contL X=0)))∧Ext w w':=by
 obtain ⟨r,rfl,hr⟩:=h
 have HN:Hid (∀ W,Ext w W→Calls Tryz.prog 76 #[r] W fun e w'=>e=.returned (.string (intB (contL X:Int)))∧Ext W w'):=fun W hW=>contentI_any X r W (ListAt.ext numC.mono' hr hW) hd (ht.ext hW)
 obtain ⟨a,c,rfl,-⟩:=ListAt.open hr
 obtain ⟨w1,hw1⟩:∃ w1,w.alloc (.cells #[.int .i64 n,.int .i64 k,.slice a X.length c] 31)=w1:=⟨_,rfl⟩
 have hb1:w1.heap[w.heap.size]?=some (.cells #[.int .i64 n,.int .i64 k,.slice a X.length c] 31 (0,0)):=by rw [← hw1];exact block_new w _ _
 have HE1:Hid (Ext w w1):=by rw [← hw1];exact Ext.alloc _ _
 have k1:=block_cell hb1
 have hz:=int_zeroW (contL X:Int)
 have HD:Hid (decide ((contL X:Int)=0)=decide (contL X=0)):=by unfold Hid;congr 1;exact propext ⟨fun h=>by omega,fun h=>by omega⟩
 obtain ⟨s,hs⟩:∃ s,intB (contL X:Int)=s:=⟨_,rfl⟩
 rw [hs] at HN hz
 clear hb1 hr hd ht hs
 go_enter Tryz.func79,Tryz.ntmps79
 go_wp2_with fail
 refine (HN.out w1 HE1.out).mono ?_
 rintro e w3 ⟨rfl,h3⟩
 have HE3:Hid (Ext w w3):=HE1.out.trans h3
 clear h3 HN
 go_wp2_with fail
 go_ret
 refine ⟨?_,HE3.out⟩
 rw [← HD.out]
 first | rfl | (rw [← hz];rfl)
theorem infoRowU:(Tryz.prog.info? 26).map (fun i=>(i.zero,i.size,i.bytes))=some (some (.slice none 0 0),1,24):=by kernel_rfl
def castS (l:List (List Nat)):List (List Int):=l.map fun S:List Nat=>S.map fun x:Nat=>(x:Int)
theorem castS_append (a b:List (List Nat)):castS (a++b)=castS a++castS b:=by unfold castS;rw [List.map_append]
def folS (S:List Nat) (d:Nat):List (List Nat):=(List.range' (fromS S) d).map fun x=>S++[x]
theorem folS_succ (S:List Nat) (d:Nat):folS S (d+1)=folS S d++[S++[fromS S+d]]:=by
 unfold folS
 rw [List.range'_concat,List.map_append]
 simp
theorem growS_succ {n i:Nat} {L:List (List Nat)} {S:List Nat} (h:L[i]?=some S):growS n (L.take (i+1))=growS n (L.take i)++folS S (n-fromS S):=by
 unfold growS folS
 rw [List.take_add_one,h]
 simp
theorem growS_len (n:Nat):∀ l:List (List Nat),(growS n l).length≤l.length*n
 | []=>by simp [growS]
 | S::l=>by
  have h:=growS_len n l
  have e:growS n (S::l)=folS S (n-fromS S)++growS n l:=by unfold growS folS;rw [List.flatMap_cons]
  rw [e,List.length_append,List.length_cons,Nat.succ_mul]
  have:(folS S (n-fromS S)).length=n-fromS S:=by simp [folS]
  omega
theorem fromS_get {S:List Nat} {k:Nat} (hk:S.length=k+1):∃ x,S[k]?=some x∧fromS S=x+1:=by
 unfold fromS
 have:S.getLast?=S[k]?:=by rw [List.getLast?_eq_getElem?,hk];rfl
 rw [this]
 have hx:S[k]?=some (S[k]'(by omega)):=List.getElem?_eq_getElem _
 exact ⟨_,hx,by rw [hx]⟩
theorem fromS_le {S:List Nat} {n:Nat} (h:∀ x∈S,x<n):fromS S≤n:=by
 unfold fromS
 cases e:S.getLast? with
 | none=>exact Nat.zero_le _
 | some x=>exact h x (List.mem_of_getLast? e)
theorem wp_append_copyI {o:Oper} {a:Act} {K:Act→World→Prop} {Q:Exit→Act→World→Prop} (s x:Operand)
  (ho:o.op=.call { callee:=.builtin .append,args:=#[s,x],argTypes:=#[26,26] })
  (w:World) (xs:List Int) (v:Value) (h:Ints w v xs) (hlen:xs.length≤1000000) (hs:a.eval s=.slice (some ⟨w.heap.size,0,none⟩) 0 0) (hx:a.eval x=v)
  (hK:∀ v' w',OwnR w.heap.size w' v' xs→Ext w w'→K (a.put o.dst v') w'):o.wp Tryz.prog a (w.alloc (.cells #[] 3)) K Q:=by
 obtain ⟨ad,c,rfl,h1,h2,h3,hb,hc⟩:=h.open
 obtain ⟨i0,hi,hz0,hz1,hz2⟩:=info_parts infoInt
 have hown:(w.alloc (.cells #[] 3)).ownsRow w.heap.size 3 1 (.slice (some ⟨w.heap.size,0,none⟩) 0 0) 0 []:=World.ownsRow_made w #[] 0 (Nat.le_refl _) (Nat.zero_le _) rfl
 cases ad with
 | none =>
  have h0:xs=[]:=by have:=h3 rfl;exact List.eq_nil_of_length_eq_zero (by omega)
  subst h0
  obtain rfl:c=0:=h3 rfl
  have hrun:=run_append_owned_none (P:=Tryz.prog) (w:=w.alloc (.cells #[] 3)) w.heap.size 26 o.type 3 i0 1 Tryz.underlying26 hi _ 0 [] hown
  unfold Oper.wp
  simp [execOp,ho,resolve,invoke,builtin,hs,hx,hrun,Result.andThen]
  exact hK _ _ hown (Ext.alloc _ _)
 | some ad =>
  have hnews:∀ (j:Nat) (u:Value),(xs.map (Value.int .i64))[j]?=some u→(w.alloc (.cells #[] 3)).cell? (ad.add j)=some u:=by
   intro j u hu
   rw [List.getElem?_map] at hu
   cases hj:xs[j]? with
   | none=>simp [hj] at hu
   | some x =>
    simp [hj] at hu;subst hu
    obtain ⟨b,off,hab,hbw,hcell⟩:=hc (by intro e;simp [e] at hj)
    cases hab
    have:=hcell j x hj
    rw [show (⟨b,off,none⟩:Addr).add j=⟨b,off+j,none⟩ by unfold Addr.add;split <;> simp_all]
    exact Ext.cell (Ext.alloc w _) this
  refine wp_append_own_at (w.alloc (.cells #[] 3)) s x 26 ho w.heap.size 3 i0 (.int .i64 0) 1 8 Tryz.underlying26 hi hz0 hz1 hz2 rfl (by decide) _ 0 [] hs hown ad xs.length c (xs.map (Value.int .i64)) hx (by simp) hnews (ints_oneCell _ _) (by unfold maxLen;omega) (by omega) (by simp) ?_
  intro v' w' hown' hgrow _ _
  refine hK v' w' (by simpa [OwnR] using hown') (Below.grown (Ext.alloc w _) hgrow (by simp) (by intro k hk;simp [Value.ownBlock] at hk;omega))
theorem wpList_append_copyI {ops:Array Oper} {rest:List Oper} {o:Oper} {a:Act} {Q:Exit→Act→World→Prop} (hgd:o.guard=none) (s x:Operand)
  (ho:o.op=.call { callee:=.builtin .append,args:=#[s,x],argTypes:=#[26,26] })
  (w:World) (xs:List Int) (v:Value) (h:Ints w v xs) (hlen:xs.length≤1000000) (hs:a.eval s=.slice (some ⟨w.heap.size,0,none⟩) 0 0) (hx:a.eval x=v)
  (hK:∀ v' w',OwnR w.heap.size w' v' xs→Ext w w'→wpList Tryz.prog ops Q rest (a.put o.dst v') w'):wpList Tryz.prog ops Q (o::rest) a (w.alloc (.cells #[] 3)) :=
 wpList_plain hgd fun _ hk=>wp_append_copyI s x ho w xs v h hlen hs hx fun v' w' a1 a2=>hk _ _ (hK v' w' a1 a2)
theorem wpList_append_one {ops:Array Oper} {rest:List Oper} {o:Oper} {a:Act} {Q:Exit→Act→World→Prop} (hgd:o.guard=none) (w:World) (s x:Operand) (T2:TypeId) (ht2:Tryz.prog.underlying T2=some (TypeDesc.slice 3)) (ho:o.op=Op.call { callee:=Callee.builtin Builtin.append,args:=#[s,x],argTypes:=#[T2,T2] }) (B:Nat)
  (v:Value) (l:List Int) (y:Int) (u:Array Value) (T:TypeId) (hs:a.eval s=v) (hB:OwnR B w v l) (hx:a.eval x=.slice (some ⟨w.heap.size,0,none⟩) 1 1) (hu:u=#[.int .i64 y]) (hlen:l.length<1000000) (hbase:B≤w.heap.size)
  (h:∀ v' w',OwnR B w' v' (l++[y])→Below B w w'→wpList Tryz.prog ops Q rest (a.put o.dst v') w'):wpList Tryz.prog ops Q (o::rest) a (w.alloc (.cells u T)) :=
 wpList_plain hgd fun _ hk=>wp_append_int w s x T2 ht2 ho B v l y u T hs hB hx hu hlen hbase fun v' w' a1 a2=>hk _ _ (h v' w' a1 a2)
theorem nil1_lit (w:World) (T:TypeId):Rows2 (w.alloc (.cells #[.slice none 0 0] T)) (.slice (some ⟨w.heap.size,0,none⟩) 1 1) [[]] :=
 ListAt.lit (R:=Ints) (fun _ _ _ _ he h=>Ints.ext h he) w [.slice none 0 0] [[]] T rfl (by unfold maxLen;simp) (fun j u x hu hx=>by
  match j with
  | 0=>simp only [List.getElem?_cons_zero,Option.some.injEq] at hu hx;subst hu;subst hx;exact ⟨[],rfl,by simp,⟨none,0,rfl,Nat.le_refl _,Nat.zero_le _,fun _=>rfl,fun h=>absurd rfl h⟩,by simp⟩
  | j+1=>simp at hu)
theorem castS_bd {n:Nat} {L:List (List Nat)} (hn:n≤12) (h:∀ S∈L,∀ x∈S,x<n):∀ r∈castS L,∀ x∈r,-9223372036854775808≤x∧x≤(9223372036854775807:Int):=by
 intro r hr x hx
 unfold castS at hr
 obtain ⟨S,hS,rfl⟩:=List.mem_map.1 hr
 obtain ⟨y,hy,rfl⟩:=List.mem_map.1 hx
 have:=h S hS y hy
 omega
set_option maxRecDepth 100000 in
set_option maxHeartbeats 2000000 in
theorem refSets_any (n k:Nat) (hn:n≤12) (hk:k≤n) (w:World) :
  Calls Tryz.prog 33 #[.int .i64 (n:Int),.int .i64 (k:Int)] w fun e w'=>∃ v,e=.returned v∧Rows2 w' v (castS (setsL n k))∧Ext w w':=by
 have HNL:Hid (∀ s,s≤n→(∀ S∈setsL n s,S.length=s∧∀ x∈S,x<n)∧(setsL n s).length≤1000):=fun s hs=>by
  obtain ⟨h1,h2,h3⟩:=sets_ok hn hs
  exact ⟨fun S hS=>⟨h1.len S hS,h1.lt S hS⟩,h3⟩
 have HN:=Lib.hid hn
 go_enter Tryz.func33,Tryz.ntmps33
 go_wp2_with fail
 go_loopw [6,5] (fun t v wr=>∃ s:Nat,s≤k∧t=.int .i64 s∧Ext w wr∧Hid (Rows2 wr v (castS (setsL n s)))) (fun t _ _=>k-(intOf t).toNat)
 case atStart=>exact ⟨0,by omega,rfl,Ext.alloc _ _,nil1_lit w _⟩
 case round =>
  obtain ⟨s,hs,rfl,hE,HR⟩:=hrel
  obtain ⟨wo,rfl⟩:∃ wo:World,wo=wr:=⟨_,rfl⟩
  by_cases hlt:s<k
  ·obtain ⟨L,hL⟩:∃ L,L=setsL n s:=⟨_,rfl⟩
   obtain ⟨hL1,hL2⟩:=HNL.out s (by omega)
   rw [← hL] at HR hL1 hL2
   have HLD:=Lib.hid hL
   have HL1:=Lib.hid hL1
   clear hL hL1
   obtain ⟨a,c,rfl,hx1,hx2,-,hx⟩:=inCell.open HR.out
   have hcl:(castS L).length=L.length:=by simp [castS]
   rw [hcl] at hx1 ⊢
   have HX:=Lib.hid hx
   clear hx hcl
   unfold maxLen at hx2
   go_wp2_with fail
   go_loopw [7,8] (fun nx t wq=>∃ (i:Nat) (tags:List (Nat×Nat)),i≤L.length∧t=.int .i64 i∧Hid (Ext wo wq)∧Hid (RowsO intK 26 wq wo.heap.size wo.heap.size nx tags (castS (growS n (L.take i))))) (fun _ t _=>L.length-(intOf t).toNat)
   case atStart=>exact ⟨0,[],by omega,rfl,Ext.refl _,RowsO.nil _ _ _ _ _⟩
   case round =>
    obtain ⟨i,tags,hi,rfl,HE2,HO⟩:=hrel
    obtain ⟨wi,rfl⟩:∃ wi:World,wi=wr:=⟨_,rfl⟩
    by_cases hil:i<L.length
    ·obtain ⟨S,hS⟩:∃ S,L[i]?=some S:=⟨L[i],List.getElem?_eq_getElem hil⟩
     obtain ⟨hSl,hSn⟩:=HL1.out S (List.mem_of_getElem? hS)
     obtain ⟨b,off,rfl,hb,hc⟩:=HX.out (by intro e;have:=congrArg List.length e;simp [castS] at this;rw [this] at hil;simp at hil)
     obtain ⟨p,hp,hcell⟩:=hc i (S.map fun x:Nat=>(x:Int)) (by unfold castS;rw [List.getElem?_map,hS];rfl)
     obtain ⟨a2,c2,rfl,hy1,hy2,hy3,hy4,hy5⟩:=Ints.open (Ints.ext hp HE2.out)
     have HP:=Lib.hid hp
     have HG0:=Lib.hid hcell
     have g1:=HE2.out.cell hcell
     have HSn:=Lib.hid hSn
     have hml:(S.map fun x:Nat=>(x:Int)).length=s:=by simp [hSl]
     have hff:=fromS_le hSn
     have HG1:=Lib.hid (growS_succ (n:=n) hS)
     have HSl:=Lib.hid hSl
     clear hp hcell hc hb hSn hS hSl hy4
     rw [hml] at HP HG0 g1 hy1
     unfold maxLen at hy2
     obtain ⟨f,hf⟩:∃ f,f=fromS S:=⟨_,rfl⟩
     rw [← hf] at hff
     have HF:=Lib.hid hf
     clear hml hf
     go_upto_if 24 with fail
     go_cut [9] from 25 to 33 (fun t wx=>t=.int .i64 (f:Int)∧wx=wi)
     case first =>
      cases s with
      | zero =>
       obtain rfl:f=0:=by rw [HF.out,List.eq_nil_of_length_eq_zero HSl.out];rfl
       go_wp2_with fail
       go_meet
       exact ⟨rfl,rfl⟩
      | succ s =>
       obtain ⟨x,hx,hfx⟩:=fromS_get HSl.out
       obtain rfl:f=x+1:=by rw [HF.out,hfx]
       obtain ⟨b2,off2,rfl,hb2,hcc⟩:=hy5 (by intro e;have:=congrArg List.length e;rw [List.length_map,HSl.out] at this;simp at this)
       have g2:=hcc s (x:Int) (by rw [List.getElem?_map,hx];rfl)
       clear hcc hx hfx
       go_wp2_with fail
       go_meet
       exact ⟨by go_num,rfl⟩
     case rest =>
      obtain ⟨rfl,rfl⟩:=hcut
      obtain ⟨wi,rfl⟩:∃ wi:World,wi=wc:=⟨_,rfl⟩
      go_wp2_with fail
      go_loopw [7,10] (fun nx t wq=>∃ (d:Nat) (tags:List (Nat×Nat)),f+d≤n∧t=.int .i64 (f+d:Nat)∧Hid (Ext wo wq)∧Hid (RowsO intK 26 wq wo.heap.size wo.heap.size nx tags (castS (growS n (L.take i)++folS S d)))) (fun _ t _=>n-(intOf t).toNat)
      case atStart=>exact ⟨0,tags,by omega,rfl,HE2.out,by rw [show folS S 0=[] from rfl,List.append_nil];exact HO.out⟩
      case round =>
       obtain ⟨d,tg,hd,rfl,HE3,HO3⟩:=hrel
       obtain ⟨wx,rfl⟩:∃ wx:World,wx=wr:=⟨_,rfl⟩
       by_cases hdn:f+d<n
       ·have g3:=HE3.out.cell HG0.out
        have g4:=(Ext.alloc wx (.cells #[] 3)).cell g3
        have HP3:=Lib.hid (Ints.ext HP.out HE3.out)
        go_wp2_with (at_builtin;go_must (refine wpList_append_copyI rfl _ _ rfl wx (S.map fun x:Nat=>(x:Int)) _ HP3.out ?c1 rfl rfl ?_))
        case c1=>rw [List.length_map,HSl.out];omega
        intro v1 w1 hO1 hE1
        have HO1:=Lib.hid hO1
        have HE4:=Lib.hid hE1
        have HS1:Hid (wx.heap.size≤w1.heap.size):=hE1.size
        clear hO1 hE1
        go_wp2_with (at_builtin;go_must (refine wpList_append_one rfl w1 _ _ _ Tryz.underlying26 rfl wx.heap.size v1 (S.map fun x:Nat=>(x:Int)) ((f:Int)+(d:Int)) _ _ rfl HO1.out rfl rfl ?c2 HS1.out ?_))
        case c2=>rw [List.length_map,HSl.out];omega
        intro v2 w2 hO2 hB2
        have hO2b:=hO2
        unfold OwnR at hO2b
        obtain ⟨g,cg,rfl,hg1,hg2,hg3,hg4⟩:=owns_shape hO2b (by simp)
        have hRI:=RowI.ofOwn hO2b
        have hlen:((S.map fun x:Nat=>(x:Int))++[((f:Int)+(d:Int))]).length=s+1:=by simp [HSl.out]
        rw [hlen] at hg3
        rw [hlen]
        have HRI:=Lib.hid hRI
        have HLN:=Lib.hid hlen
        have HE5:Hid (Ext wx w2):=Below.trans HE4.out hB2
        have HO5:=Lib.hid (HO3.out.ext HE5.out)
        have HSZ:Hid (wo.heap.size≤wi.heap.size∧wo.heap.size≤wx.heap.size∧wx.heap.size≤g∧wx.heap.size≤w2.heap.size):=⟨HE2.out.size,HE3.out.size,hg1,HE5.out.size⟩
        have HV:Hid (u7.ownBlock≠some g):=fun e=>by have:=(HO3.out.own.lt _ e).2;omega
        have HNT:Hid (g∉tg.map (·.1)):=fun e=>by have:=(HO3.out.fresh e).2;omega
        have HC:Hid (s+1≤cg∧cg≤9223372036854775807):=⟨hg3,by unfold maxLen at hg4;omega⟩
        have HLL:Hid ((castS (growS n (L.take i)++folS S d)).length<1000000):=by
         have h1:=growS_len n (L.take i)
         have h2:(L.take i).length*n≤1000*12:=Nat.mul_le_mul (by rw [List.length_take];omega) HN.out
         unfold Hid castS folS
         rw [List.length_map,List.length_append,List.length_map,List.length_range']
         omega
        clear hO2 hO2b hB2 hg1 hg2 hg3 hg4 hRI hlen
        go_wp2_with (at_builtin;go_must (refine wpList_append_rowO (K:=intK) (e:=26) Tryz.underlying58 infoRowU w2 rfl _ _ rfl wo.heap.size wo.heap.size u7 tg (castS (growS n (L.take i)++folS S d)) (g,cg) ((S.map fun x:Nat=>(x:Int))++[((f:Int)+(d:Int))]) _ _ rfl HO5.out rfl ?d1 ?d2 ?d3 HRI.out ?d4 HV.out HNT.out HLL.out ?d5 ?_))
        case d1=>rw [HLN.out];rfl
        case d2=>rw [HSl.out];exact HC.out.1
        case d3=>exact HC.out.2
        case d4=>have:=HSZ.out;show wo.heap.size≤g;omega
        case d5=>have:=HSZ.out;omega
        intro v3 w3 hO6 hB6 _
        have HO6:=Lib.hid hO6
        have HX6:Hid (Ext wo w3):=Below.trans (Ext.trans HE3.out HE5.out) hB6
        clear hO6 hB6
        have e6:castS (growS n (L.take i)++folS S d)++[(S.map fun x:Nat=>(x:Int))++[((f:Int)+(d:Int))]]=castS (growS n (L.take i)++folS S (d+1)):=by
         rw [folS_succ,← HF.out,← List.append_assoc,castS_append _ [S++[f+d]]]
         simp [castS]
        rw [e6] at HO6
        clear e6
        go_wp2_with fail
        go_roundw
        case rel=>exact ⟨d+1,_,by omega,by go_num,HX6.out,HO6.out⟩
        case measure=>simp [intOf];omega
       ·obtain rfl:d=n-f:=by omega
        have HR3:=Lib.hid HO3.out
        rw [HF.out,← HG1.out] at HR3
        have HE4:=Lib.hid HE3.out
        go_wp2_with fail
        go_roundw
        case rel=>exact ⟨i+1,tg,by omega,by go_num,HE4.out,HR3.out⟩
        case measure=>simp [intOf];omega
    ·obtain rfl:i=L.length:=by omega
     have HF:Hid (growS n L=setsL n (s+1)):=by unfold Hid;rw [HLD.out];rfl
     rw [List.take_length,HF.out] at HO
     have HR2:=Lib.hid (HO.out.rows2 (castS_bd HN.out fun S hS=>((HNL.out (s+1) (by omega)).1 S hS).2))
     go_wp2_with fail
     go_roundw
     case rel=>exact ⟨s+1,by omega,by go_num,hE.trans HE2.out,HR2.out⟩
     case measure=>simp [intOf];omega
  ·obtain rfl:s=k:=by omega
   go_wp2_with fail
   go_ret
   exact ⟨_,rfl,HR.out,hE⟩
def Bruijn (w : World) : Prop := Lib.TabIs Tryz.prog w "math/bits.deBruijn64tab" .u8 (Lib.deBruijn64tab.map fun x : Nat => (x : Int))
theorem Bruijn.ext {w w':World} (h:Bruijn w) (he:Ext w w'):Bruijn w':=by
 unfold Bruijn Lib.TabIs at h ⊢
 cases hg : Tryz.prog.globalNamed "math/bits.deBruijn64tab" with
 | none=>simp [World.var?,hg] at h
 | some g =>
  refine var?_below he hg ?_ h
  by_cases hlt:g<w.heap.size
  ·exact hlt
  ·simp [World.var?,hg,Array.getElem?_eq_none (show w.heap.size≤g by omega)] at h
theorem Bruijn.at {w:World} (h:Bruijn w):TabAt 1 Lib.deBruijn64tab w:=by
 intro j hj
 have hg : Tryz.prog.globalNamed "math/bits.deBruijn64tab" = some 1 := by kernel_rfl
 have:=World.var?_cell hg h j
 rw [this]
 simp [List.getElem?_map,List.getElem?_eq_getElem hj,List.getD_eq_getElem?_getD]
theorem ctz_low:∀ s,s<4096→s≠0→Lib.ctz 64 s=lowB s:=by
 have h:∀ a,a<64→∀ b,b<64→64*a+b≠0→Lib.ctz 64 (64*a+b)=lowB (64*a+b):=by decide +kernel
 intro s hs h0
 have:=h (s / 64) (by omega) (s%64) (by omega) (by omega)
 rwa [Nat.div_add_mod] at this
def natsI (l:List Nat):List Int:=l.map fun x:Nat=>(x:Int)
theorem membL_all {s:Nat}:∀ x∈membL s,x<12:=fun x hx=>List.mem_range.1 (List.mem_filter.1 hx).1
theorem membL_len (s:Nat):(membL s).length≤12:=Nat.le_trans (List.length_filter_le _ _) (by simp)
theorem membL_zero:membL 0=[]:=by decide +kernel
end Go.Proofs.YtjlkkofmojgipaaGreatDoor
