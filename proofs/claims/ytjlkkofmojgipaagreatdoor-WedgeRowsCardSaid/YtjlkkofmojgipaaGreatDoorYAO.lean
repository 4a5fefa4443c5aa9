import Derived.Test.YtjlkkofmojgipaaGreatDoorYAL
import Derived.Test.YtjlkkofmojgipaaGreatDoorYAN
import Derived.Test.YtjlkkofmojgipaaGreatDoorYAA
import Derived.Lib.SliceRun
import Derived.WalkSpells
import Derived.Laws.AppendOwnNone
namespace Go.Proofs.YtjlkkofmojgipaaGreatDoor
set_option linter.unusedVariables false
set_option linter.unusedSimpArgs false
def rowQI (r:List Int):List Rat:=r.map fun x:Int=>(x:Rat)
theorem rowQI_len (r:List Int):(rowQI r).length=r.length:=by simp [rowQI]
def matQ (m:List (List Int)):List (List Rat):=m.map rowQI
theorem matQ_len (m:List (List Int)):(matQ m).length=m.length:=by simp [matQ]
structure UnitQ (m:List (List Rat)):Prop where
 val:∀ i j,elQ m i j=0∨elQ m i j=1
 one:∀ i i' j,elQ m i j=1→elQ m i' j=1→i=i'
theorem elQ_out {m:List (List Rat)} {i c:Nat} (h:m.length≤i):elQ m i c=0:=by
 unfold elQ rowQ
 rw [List.getD_eq_getElem?_getD (l:=m),List.getElem?_eq_none h]
 simp
theorem elQ_swp {m:List (List Rat)} {a b:Nat} (ha:a<m.length) (hb:b<m.length) (i j:Nat):elQ (swp m a b) i j=elQ m (if i=b then a else if i=a then b else i) j:=by
 unfold elQ rowQ
 rw [List.getD_eq_getElem?_getD (l:=swp m a b),List.getD_eq_getElem?_getD (l:=m),swp_get (List.getElem?_eq_getElem ha) (List.getElem?_eq_getElem hb)]
 by_cases h1:i=b
 ·rw [if_pos h1,if_pos h1,List.getElem?_eq_getElem ha]
 ·rw [if_neg h1,if_neg h1]
  by_cases h2:i=a
  ·rw [if_pos h2,if_pos h2,List.getElem?_eq_getElem hb]
  ·rw [if_neg h2,if_neg h2]
theorem UnitQ.swp {m:List (List Rat)} (h:UnitQ m) {a b:Nat} (ha:a<m.length) (hb:b<m.length):UnitQ (Proofs.YtjlkkofmojgipaaGreatDoor.swp m a b):=by
 refine ⟨fun i j=>by rw [elQ_swp ha hb];exact h.val _ _,fun i i' j h1 h2=>?_⟩
 rw [elQ_swp ha hb] at h1 h2
 have e:=h.one _ _ _ h1 h2
 repeat' split at e
 all_goals omega
theorem findP_spec (m : List (List Rat)) (c : Nat) : ∀ (f a : Nat), a ≤ findP m c f a ∧ findP m c f a ≤ a + f ∧ (∀ j, a ≤ j → j < findP m c f a → elQ m j c = 0) ∧ (findP m c f a < a + f → elQ m (findP m c f a) c ≠ 0)
  | 0, a => ⟨Nat.le_refl _, Nat.le_refl _, fun j h1 h2 => by have : j < a := h2; omega, fun h => by have : a < a + 0 := h; omega⟩
  | f + 1, a => by
    unfold findP
    by_cases h : elQ m a c = 0
    · rw [if_pos h]
      obtain ⟨h1, h2, h3, h4⟩ := findP_spec m c f (a + 1)
      refine ⟨by omega, by omega, fun j hj1 hj2 => ?_, fun hh => h4 (by omega)⟩
      by_cases e : j = a
      · rw [e]; exact h
      · exact h3 j (by omega) hj2
    · rw [if_neg h]
      exact ⟨Nat.le_refl _, by omega, fun j h1 h2 => by omega, fun _ => h⟩
theorem UnitQ.rs {m:List (List Rat)} (h:UnitQ m):AllRS 2500 m:=by
 intro r hr x hx
 obtain ⟨i,hi⟩:=List.getElem?_of_mem hr
 obtain ⟨j,hj⟩:=List.getElem?_of_mem hx
 have e:elQ m i j=x:=elQ_get (by rw [rowQ_get hi];exact hj)
 have hs:(intB 1).size≤2∧(intB 0).size≤2∧(numB 1).size≤2:=by
  unfold intB numB Lib.itoa
  rw [if_neg (by omega),if_neg (by omega),show (1:Int).toNat=1 from rfl,show (0:Int).toNat=0 from rfl,Lib.decDigits_one (by omega),Lib.decDigits_one (by omega)]
  exact ⟨by decide,by decide,by decide⟩
 rcases h.val i j with h0 | h0
 ·rw [← e,h0]
  exact ⟨Nat.le_trans hs.2.1 (by omega),Nat.le_trans hs.2.2 (by omega)⟩
 ·rw [← e,h0]
  exact ⟨Nat.le_trans hs.1 (by omega),Nat.le_trans hs.2.2 (by omega)⟩
end Go.Proofs.YtjlkkofmojgipaaGreatDoor
namespace Go.Proofs.YtjlkkofmojgipaaGreatDoor
set_option linter.unusedVariables false
set_option linter.unusedSimpArgs false
open Go.RowKit
def rowsTo (xss:List (List Int)) (mo:Nat→List Rat) (i:Nat):List (List Rat):=(List.range i).map fun k=>rowQI (xss.getD k [])++mo k
theorem rowsTo_succ {xss:List (List Int)} {mo:Nat→List Rat} {i:Nat} {r:List Int} (h:xss[i]?=some r):rowsTo xss mo (i+1)=rowsTo xss mo i++[rowQI r++mo i]:=by
 unfold rowsTo
 rw [List.range_succ,List.map_append,List.map_cons,List.map_nil,List.getD_eq_getElem?_getD (l:=xss),h]
 rfl
theorem rowsTo_len (xss:List (List Int)) (mo:Nat→List Rat) (i:Nat):(rowsTo xss mo i).length=i:=by simp [rowsTo]
theorem rowQI_take {r:List Int} {k:Nat} {x:Int} (h:r[k]?=some x):rowQI (r.take (k+1))=rowQI (r.take k)++[(x:Rat)]:=by
 unfold rowQI
 rw [List.take_add_one,h,List.map_append]
 rfl
def MoreAt (g:Nat) (lb:Array Value) (n:Nat) (mo:Nat→List Rat) (w:World):Prop :=
 ∀ (i:Nat) W,i<n→Ext w W→Calls Tryz.prog g (#[.int .i64 (i:Int)]++lb) W fun e W'=>∃ u,e=.returned u∧Rats W' u (mo i)∧Ext W W'
set_option maxRecDepth 100000 in
set_option maxHeartbeats 4000000 in
theorem rows_any (xss:List (List Int)) (v:Value) (g:Nat) (lb:Array Value) (mo:Nat→List Rat) (w:World) (h:Rows2 w v xss) (hl:xss.length≤1000) (hr:∀ r∈xss,r.length≤1000)
  (hmo:∀ i r,xss[i]?=some r→0<r.length+(mo i).length∧(mo i).length≤1000) (eg:∀ args w,(callFunc g args).run Tryz.prog w=.ok (.enter g args) w) (hm:MoreAt g lb xss.length mo w) (ht:Pow10 w) :
  Calls Tryz.prog 110 #[v,.func (.func g) #[] lb] w fun e w'=>∃ u tags,e=.returned u∧RowsO ratK 197 w' w.heap.size w.heap.size u tags (rowsTo xss mo xss.length)∧Ext w w':=by
 obtain ⟨a,c,rfl,h1,h2,-,hc⟩:=inCell.open h
 have HC:=Lib.hid hc;have HM:=Lib.hid hm;have HT:=Lib.hid ht;have HR:=Lib.hid hr;have HMO:=Lib.hid hmo
 unfold maxLen at h2
 clear h hc hm ht hr hmo
 go_enter Tryz.func110,Tryz.ntmps110
 go_wp2_with fail
 go_loopw [13,5] (fun t v wr=>∃ (i:Nat) (tags:List (Nat×Nat)),i≤xss.length∧t=.int .i64 i∧Ext w wr∧Hid (RowsO ratK 197 wr w.heap.size w.heap.size v tags (rowsTo xss mo i))) (fun t _ _=>xss.length-(intOf t).toNat)
 case atStart=>exact ⟨0,[],by omega,rfl,Ext.refl _,RowsO.nil _ _ _ _ _⟩
 case round =>
  obtain ⟨i,tags,hin,rfl,hE,HO⟩:=hrel
  obtain ⟨wo,rfl⟩:∃ wo:World,wo=wr:=⟨_,rfl⟩
  have HE:=Lib.hid hE
  by_cases hlt:i<xss.length
  ·obtain ⟨b,off,rfl,hb,hcell⟩:=HC.out (by intro e;simp [e] at hlt)
   obtain ⟨r,hx⟩:∃ x,xss[i]?=some x:=⟨xss[i],List.getElem?_eq_getElem hlt⟩
   obtain ⟨vx,hvx,hcx⟩:=hcell i r hx
   obtain ⟨ax,cx,rfl,k1,k2,-,hbd,kc⟩:=Ints.open hvx
   have g1:=hE.cell hcx
   have HX:=Lib.hid (Ints.ext hvx hE)
   have HK:=Lib.hid kc;have HBD:=Lib.hid hbd;have HI:=Lib.hid hx
   have HSU:=Lib.hid (rowsTo_succ (mo:=mo) hx)
   have hrl:=HR.out r (List.mem_of_getElem? hx)
   have HMI:=Lib.hid (HMO.out i r hx)
   unfold maxLen at k2
   clear hcell hx hvx hcx kc hbd
   go_wp2_with fail
   clear g1
   go_loopw [20,8] (fun t v wr=>∃ k:Nat,k≤r.length∧t=.int .i64 k∧Hid (Ext wo wr)∧Hid (OwnQ wo.heap.size wr v (rowQI (r.take k)))) (fun t _ _=>r.length-(intOf t).toNat)
   case atStart=>exact ⟨0,by omega,rfl,Ext.refl _,OwnQ.nil _ _⟩
   case round =>
    obtain ⟨k,hk,rfl,HEI,HQ⟩:=hrel
    obtain ⟨wi,rfl⟩:∃ wi:World,wi=wr:=⟨_,rfl⟩
    by_cases hlk:k<r.length
    ·obtain ⟨bx,offx,rfl,hbx,hcellx⟩:=HK.out (by intro e;simp [e] at hlk)
     obtain ⟨x,hx⟩:∃ x,r[k]?=some x:=⟨r[k],List.getElem?_eq_getElem hlk⟩
     have g1:=(HE.out.trans HEI.out).cell (hcellx k x hx)
     have HTK:=Lib.hid (rowQI_take hx)
     have hb:=HBD.out x (List.mem_of_getElem? hx)
     have HOF:=Lib.hid (of_any x wi hb.1 hb.2 (HT.out.ext (HE.out.trans HEI.out)))
     clear hcellx hx hb
     go_wp2_with fail
     refine HOF.out.mono ?_
     rintro e w1 ⟨rfl,hE1⟩
     have HQ1:=Lib.hid (HQ.out.ext hE1)
     have HX1:=Lib.hid (Ext.trans HEI.out hE1)
     have HQ2:Hid (OwnQ wo.heap.size (w1.alloc (.cells #[.string (intB x),.string ⟨#[49]⟩] 152)) u8 (rowQI (r.take k))):=HQ1.out.ext (Ext.alloc _ _)
     have HU:Hid (Rats (w1.alloc (.cells #[.string (intB x),.string ⟨#[49]⟩] 152)) (.slice (some ⟨w1.heap.size,0,none⟩) 1 1) [(x:Rat)]):=by
      have:=Rats.one w1 (x:Rat) 152
      rw [show ((x:Rat)).num=x from rfl,show ((x:Rat)).den=1 from rfl,numB_one] at this
      exact this
     have hs1:wo.heap.size≤(w1.alloc (.cells #[.string (intB x),.string ⟨#[49]⟩] 152)).heap.size:=by
      have:=HX1.out.size
      rw [World.size_alloc];omega
     have HS1:=Lib.hid hs1
     have HLE:Hid ((rowQI (r.take k)).length+[(x:Rat)].length<1000000):=by
      unfold Hid
      rw [rowQI_len,List.length_take];simp;omega
     clear hE1 HOF g1 hs1
     go_wp2_with (at_builtin;go_must (refine wpList_append_rats _ rfl _ _ rfl wo.heap.size u8 _ (rowQI (r.take k)) [(x:Rat)] rfl HQ2.out rfl HU.out HLE.out HS1.out ?_))
     intro v' w2 hQ2 hb2 _
     rw [← HTK.out] at hQ2
     have HQ3:=Lib.hid hQ2
     have HX2:Hid (Ext wo w2):=Below.trans (Ext.trans HX1.out (Ext.alloc w1 (.cells #[.string (intB x),.string ⟨#[49]⟩] 152))) hb2
     clear hQ2 hb2
     go_wp2_with fail
     go_roundw
     case rel=>exact ⟨k+1,by omega,by go_num,HX2.out,HQ3.out⟩
     case measure=>simp [intOf];omega
    ·obtain rfl:k=r.length:=by omega
     rw [List.take_length] at HQ
     have HCALL:=Lib.hid (HM.out i wi hlt (HE.out.trans HEI.out))
     go_wp2_with fail
     refine HCALL.out.mono ?_
     rintro e w1 ⟨um,rfl,hum,hE1⟩
     have HQ1:=Lib.hid (HQ.out.ext hE1)
     have HX1:=Lib.hid (Ext.trans HEI.out hE1)
     have HUM:=Lib.hid hum
     have HLE:Hid ((rowQI r).length+(mo i).length<1000000):=by
      unfold Hid
      have:=HMI.out.2
      rw [rowQI_len];omega
     have HS1:=Lib.hid HX1.out.size
     clear hE1 HCALL hum
     go_wp2_with (at_builtin;go_must (refine wpList_append_rats _ rfl _ _ rfl wo.heap.size u8 _ (rowQI r) (mo i) rfl HQ1.out rfl HUM.out HLE.out HS1.out ?_))
     intro v' w2 hQ2 hb2 _
     have HX2:Hid (Ext wo w2):=Below.trans HX1.out hb2
     obtain ⟨gq,cq,rfl,d1,d2,d3,d4⟩:=owns_shape hQ2 (by rw [List.length_append,rowQI_len];exact HMI.out.1)
     have HRQ:=Lib.hid hQ2.row
     obtain ⟨nq,hnq⟩:∃ nq,nq=(rowQI r++mo i).length:=⟨_,rfl⟩
     rw [← hnq] at d3 ⊢
     have HNQ:=Lib.hid hnq
     have HO2:=Lib.hid (HO.out.ext HX2.out)
     have HV:Hid (u5.ownBlock≠some gq):=fun e=>by have:=(HO.out.own.lt _ e).2;omega
     have HN:Hid (gq∉tags.map (·.1)):=fun e=>by have:=(HO.out.fresh e).2;omega
     have HSZ:Hid (w.heap.size≤gq∧w.heap.size≤w2.heap.size):=by
      have h1:=HE.out.size;have h2:=HX2.out.size
      exact ⟨by omega,by omega⟩
     have HLN:Hid ((rowsTo xss mo i).length<1000000):=by unfold Hid;rw [rowsTo_len];omega
     have HCP:Hid ((rowQI r++mo i).length≤cq∧cq≤9223372036854775807):=⟨by rw [← hnq];exact d3,d4⟩
     clear hQ2 hb2 d1 d2 d3 d4 hnq
     go_wp2_with (at_builtin;go_must (refine wpList_append_rowO (K:=ratK) (e:=197) Tryz.underlying155 infoRats _ rfl _ _ rfl w.heap.size w.heap.size u5 tags (rowsTo xss mo i) (gq,cq) (rowQI r++mo i) #[.slice (some ⟨gq,0,none⟩) nq cq] 197 rfl HO2.out (by rfl) (by rw [HNQ.out];rfl) HCP.out.1 HCP.out.2 HRQ.out HSZ.out.1 HV.out HN.out HLN.out HSZ.out.2 ?_))
     intro v' w5 hO5 hb5 _
     rw [← HSU.out] at hO5
     have HO5:=Lib.hid hO5
     have HX5:=Lib.hid (Below.trans (Ext.trans HE.out HX2.out) hb5)
     clear hO5 hb5
     go_wp2_with fail
     go_roundw
     case rel=>exact ⟨i+1,_,by omega,by go_num,HX5.out,HO5.out⟩
     case measure=>simp [intOf];omega
  ·obtain rfl:i=xss.length:=by omega
   go_wp2_with fail
   go_ret
   exact ⟨_,tags,rfl,HO.out,hE⟩
theorem nothing_any (i:Int) (w:World):Calls Tryz.prog 111 #[.int .i64 i] w fun e w'=>e=.returned (.slice none 0 0)∧w=w':=by
 go_enter Tryz.func111,Tryz.ntmps111
 go_wp2
 go_ret
 exact ⟨rfl,rfl⟩
theorem Rats.nil (w:World):Rats w (.slice none 0 0) []:=⟨[],rfl,by simp,⟨none,0,rfl,Nat.le_refl _,Nat.zero_le _,fun _=>rfl,fun h=>absurd rfl h⟩,by simp⟩
theorem nothing_more (n:Nat) (w:World):MoreAt 111 #[] n (fun _=>[]) w:=fun i W _ _ =>
 (nothing_any i W).mono fun e W' ⟨h1,h2⟩=>⟨_,h1,Rats.nil _,h2▸Ext.refl _⟩
def idxRow (p:Int→Bool) (xs:List Int):Int:=match xs.findIdx? p with | some i=>(i:Int) | none=>-1
def PredRow (g:Nat) (lb:Array Value) (p:Int→Bool) (w:World) (xs:List Int):Prop :=
 ∀ W x,x∈xs→Ext w W→Calls Tryz.prog g (#[.int .i64 x]++lb) W fun e W'=>e=.returned (.bool (p x))∧Ext W W'
set_option maxHeartbeats 400000 in
theorem indexFuncRow_any (xs : List Int) (v : Value) (g : Nat) (lb : Array Value) (p : Int → Bool) (w : World) (h : Ints w v xs) (eg : ∀ args w, (callFunc g args).run Tryz.prog w = .ok (.enter g args) w) (hp : PredRow g lb p w xs) :
    Calls Tryz.prog 116 #[v, .func (.func g) #[] lb] w fun e w' => e = .returned (.int .i64 (idxRow p xs)) ∧ Ext w w' := by
  obtain ⟨a, c, rfl, h1, h2, -, hxb, hc⟩ := h.open
  have HC := Lib.hid hc; have HPR := Lib.hid hp
  clear hc h hxb hp
  unfold maxLen at h2
  go_enter Tryz.func116, Tryz.ntmps116
  go_wp2
  go_loopw [8] (fun t wr => ∃ pre rest, t = .int .i64 (pre.length : Nat) ∧ Ext w wr ∧ Hid (xs = pre ++ rest) ∧ Hid (∀ x ∈ pre, p x = false)) (fun t _ => xs.length - (intOf t).toNat)
  case atStart => exact ⟨[], xs, rfl, Ext.refl _, rfl, by intro x hx; simp at hx⟩
  case round =>
    obtain ⟨pre, rest, rfl, hE, HP, HA⟩ := hrel
    have hlen : xs.length = pre.length + rest.length := by rw [HP.out]; simp
    cases rest with
    | nil =>
      have : ¬ (pre.length < xs.length) := by simp at hlen; omega
      clear hlen
      go_wp2
      go_ret
      have : idxRow p xs = -1 := by
        have : xs.findIdx? p = none := by rw [HP.out, List.append_nil, List.findIdx?_eq_none_iff]; exact HA.out
        unfold idxRow; rw [this]
      rw [this]
      exact ⟨rfl, hE⟩
    | cons x rest =>
      have hlt : pre.length < xs.length := by simp at hlen; omega
      clear hlen
      obtain ⟨b, off, rfl, hb, hcell⟩ := HC.out (by rw [HP.out]; simp)
      have g1 := hE.cell (hcell pre.length x (by rw [HP.out]; simp))
      clear hcell
      have hcall := fun W he => HPR.out W x (by rw [HP.out]; simp) he
      cases hq : p x with
      | true =>
        have HR : Hid (idxRow p xs = pre.length) := by
          unfold Hid idxRow
          rw [HP.out, List.findIdx?_append, (List.findIdx?_eq_none_iff (xs := pre)).2 HA.out, List.findIdx?_cons, hq]
          simp
        rw [hq] at hcall
        have HCALL := Lib.hid hcall
        clear hcall hq
        go_wp2_with (go_at_fn g; refine (HCALL.out _ hE).mono ?_; rintro e w' ⟨rfl, hE'⟩)
        go_ret
        rw [HR.out]
        exact ⟨rfl, hE.trans (by assumption)⟩
      | false =>
        have HA' : Hid (∀ y ∈ pre ++ [x], p y = false) := by
          intro y hy
          rcases List.mem_append.1 hy with hy | hy
          · exact HA.out y hy
          · rw [List.mem_singleton.1 hy]; exact hq
        rw [hq] at hcall
        have HCALL := Lib.hid hcall
        clear hcall hq
        go_wp2_with (go_at_fn g; refine (HCALL.out _ hE).mono ?_; rintro e w' ⟨rfl, hE'⟩)
        go_roundw
        case rel => exact ⟨pre ++ [x], rest, by simp, hE.trans (by assumption), by unfold Hid; rw [HP.out]; simp, HA'⟩
        case measure => simp [intOf]; omega
theorem containsRow_any (xs : List Int) (v : Value) (g : Nat) (lb : Array Value) (p : Int → Bool) (w : World) (h : Ints w v xs) (eg : ∀ args w, (callFunc g args).run Tryz.prog w = .ok (.enter g args) w) (hp : PredRow g lb p w xs) :
    Calls Tryz.prog 57 #[v, .func (.func g) #[] lb] w fun e w' => e = .returned (.bool (xs.any p)) ∧ Ext w w' := by
  have hcall := indexFuncRow_any xs v g lb p w h eg hp
  cases hf : xs.findIdx? p with
  | none =>
    have HR : Hid (xs.any p = false) := by
      unfold Hid
      rw [List.findIdx?_eq_none_iff] at hf
      simpa using hf
    unfold idxRow at hcall
    rw [hf] at hcall
    have HCALL := Lib.hid hcall
    clear hcall hf hp h
    go_enter Tryz.func57, Tryz.ntmps57
    go_wp2_with (go_at_call 116; refine HCALL.out.mono ?_; rintro e w' ⟨rfl, hE'⟩)
    go_ret
    rw [HR.out]
    exact ⟨rfl, by assumption⟩
  | some i =>
    have HR : Hid (xs.any p = true) := by
      unfold Hid
      rw [List.any_eq_true]
      obtain ⟨hi, hpi, _⟩ := List.findIdx?_eq_some_iff_getElem.1 hf
      exact ⟨_, List.getElem_mem hi, hpi⟩
    have hi0 : (0 : Int) ≤ (i : Int) := by omega
    unfold idxRow at hcall
    rw [hf] at hcall
    have HCALL := Lib.hid hcall
    clear hcall hf hp h
    go_enter Tryz.func57, Tryz.ntmps57
    go_wp2_with (go_at_call 116; refine HCALL.out.mono ?_; rintro e w' ⟨rfl, hE'⟩)
    go_ret
    rw [HR.out]
    exact ⟨rfl, by assumption⟩
theorem drop_cons {α:Type} {xs:List α} {j:Nat} {x:α} (h:xs[j]?=some x):xs.drop j=x::xs.drop (j+1):=by
 obtain ⟨hj,rfl⟩:=List.getElem?_eq_some_iff.1 h
 exact List.drop_eq_getElem_cons hj
def fitB (n:Int):Bool:=decide (-1000000000≤n) && decide (n≤1000000000)
theorem fitB_iff (n:Int):fitB n=true↔-1000000000≤n∧n≤1000000000:=by simp [fitB]
theorem great_any (n:Int) (w:World):Calls Tryz.prog 105 #[.int .i64 n] w fun e w'=>e=.returned (.bool (!fitB n))∧w=w':=by
 by_cases h:n≤1000000000
 ·by_cases h2:-1000000000≤n
  ·go_enter Tryz.func105,Tryz.ntmps105
   go_wp2
   go_ret
   exact ⟨by simp [fitB,h,h2];try omega,rfl⟩
  ·go_enter Tryz.func105,Tryz.ntmps105
   go_wp2
   go_ret
   exact ⟨by simp [fitB,h,h2];try omega,rfl⟩
 ·go_enter Tryz.func105,Tryz.ntmps105
  go_wp2
  go_ret
  exact ⟨by simp [fitB,h];try omega,rfl⟩
def tabR (n:Nat):List (List Int)→Int
 | []=>0
 | r::l=>if 12<r.length then 4 else if r.length=n then (if r.any (fun x=>!fitB x) then 4 else tabR n l) else 5
def tabE (xss:List (List Int)):Int:=if 12<xss.length then 4 else tabR (xss.headD []).length xss
set_option maxRecDepth 100000 in
set_option maxHeartbeats 2000000 in
theorem tabCheck_any (xss : List (List Int)) (v : Value) (w : World) (h : Rows2 w v xss) :
    Calls Tryz.prog 53 #[v] w fun e w' => e = .returned (.int .i64 (tabE xss)) ∧ Ext w w' := by
  obtain ⟨a, c, rfl, h1, h2, -, hc⟩ := inCell.open h
  have HC := Lib.hid hc
  unfold maxLen at h2
  clear h hc
  by_cases hl : 12 < xss.length
  · have HT : Hid (tabE xss = 4) := by unfold Hid tabE; rw [if_pos hl]
    have hl' : (12 : Int) < (xss.length : Int) := by omega
    go_enter Tryz.func53, Tryz.ntmps53
    go_wp2_with fail
    go_ret
    exact ⟨by rw [HT.out]; rfl, Ext.refl _⟩
  · have HT : Hid (tabE xss = tabR (xss.headD []).length xss) := by unfold Hid tabE; rw [if_neg hl]
    have hl' : ¬ (12 : Int) < (xss.length : Int) := by omega
    obtain ⟨n, hn⟩ : ∃ n, n = (xss.headD []).length := ⟨_, rfl⟩
    rw [← hn] at HT
    have HN := Lib.hid hn
    clear hn
    go_enter Tryz.func53, Tryz.ntmps53
    go_wp2_with fail
    go_loopw [10] (fun t wr => ∃ j : Nat, j ≤ xss.length ∧ t = .int .i64 j ∧ Ext w wr ∧ Hid (tabE xss = tabR n (xss.drop j))) (fun t _ => xss.length - (intOf t).toNat)
    case atStart => exact ⟨0, by omega, rfl, Ext.refl _, HT.out⟩
    case round =>
      obtain ⟨j, hj, rfl, hE, HD⟩ := hrel
      obtain ⟨wo, rfl⟩ : ∃ wo : World, wo = wr := ⟨_, rfl⟩
      have HE := Lib.hid hE
      by_cases hlt : j < xss.length
      · obtain ⟨b, off, rfl, hb, hcell⟩ := HC.out (by intro e; simp [e] at hlt)
        obtain ⟨xs, hx⟩ : ∃ x, xss[j]? = some x := ⟨xss[j], List.getElem?_eq_getElem hlt⟩
        obtain ⟨ys, hy⟩ : ∃ y, xss[0]? = some y := ⟨xss[0]'(by omega), List.getElem?_eq_getElem _⟩
        have hny : ys.length = n := by
          rw [HN.out]
          cases xss with
          | nil => simp at hlt
          | cons z t => simp at hy; rw [hy]; rfl
        obtain ⟨vx, hvx, hcx⟩ := hcell j xs hx
        obtain ⟨vy, hvy, hcy⟩ := hcell 0 ys hy
        rw [Nat.add_zero] at hcy
        obtain ⟨ax, cx, rfl, -, -, -, -, -⟩ := Ints.open hvx
        obtain ⟨ay, cy, rfl, -, -, -, -, -⟩ := Ints.open hvy
        rw [hny] at hcy
        have g1 := hE.cell hcx
        have g2 := hE.cell hcy
        have HX := Lib.hid (Ints.ext hvx hE)
        have HDS : Hid (tabE xss = if 12 < xs.length then 4 else if xs.length = n then (if xs.any (fun x => !fitB x) then 4 else tabR n (xss.drop (j + 1))) else 5) := by
          unfold Hid; rw [HD.out, drop_cons hx]; rfl
        have hpos : 0 < xss.length := by omega
        have HANY := Lib.hid (fun W he => containsRow_any xs _ 105 #[] (fun x => !fitB x) W (HX.out.ext (w' := W) he) (enters_of Tryz.func105 (by kernel_rfl) rfl) (fun W x _ _ => (great_any x W).mono fun _ _ ⟨he, hw⟩ => ⟨he, hw ▸ Ext.refl _⟩))
        clear hcell hx hy hny hvx hvy hcx hcy hE
        by_cases q1 : 12 < xs.length
        · have q2 : (12 : Int) < (xs.length : Int) := by omega
          rw [if_pos q1] at HDS
          go_wp2_with fail
          go_ret
          exact ⟨by rw [HDS.out]; rfl, HE.out⟩
        · have q2 : ¬ (12 : Int) < (xs.length : Int) := by omega
          rw [if_neg q1] at HDS
          by_cases q3 : xs.length = n
          · rw [if_pos q3] at HDS
            have q4 : ((xs.length : Int) != (n : Int)) = false := by simp [q3]
            cases hany : xs.any (fun x => !fitB x) with
            | true =>
              rw [hany, if_pos rfl] at HDS
              rw [hany] at HANY
              clear q3 hany
              go_wp2_with fail
              refine (HANY.out _ (Ext.refl _)).mono ?_
              rintro e w1 ⟨rfl, hE1⟩
              have HE1 := Lib.hid (Ext.trans HE.out hE1)
              clear hE1 HANY
              go_wp2_with fail
              go_ret
              exact ⟨by rw [HDS.out]; rfl, HE1.out⟩
            | false =>
              rw [hany, if_neg Bool.false_ne_true] at HDS
              rw [hany] at HANY
              clear q3 hany
              go_wp2_with fail
              refine (HANY.out _ (Ext.refl _)).mono ?_
              rintro e w1 ⟨rfl, hE1⟩
              have HE1 := Lib.hid (Ext.trans HE.out hE1)
              clear hE1 HANY
              go_wp2_with fail
              go_roundw
              case rel => exact ⟨j + 1, by omega, by go_num, HE1.out, HDS.out⟩
              case measure => simp [intOf]; omega
          · rw [if_neg q3] at HDS
            have q4 : ((xs.length : Int) != (n : Int)) = true := by simp; omega
            clear q3
            go_wp2_with fail
            go_ret
            exact ⟨by rw [HDS.out]; rfl, HE.out⟩
      · obtain rfl : j = xss.length := by omega
        have HF : Hid (tabE xss = 0) := by unfold Hid; rw [HD.out, List.drop_length]; rfl
        clear HD hE
        go_wp2_with fail
        go_ret
        exact ⟨by rw [HF.out]; rfl, HE.out⟩
end Go.Proofs.YtjlkkofmojgipaaGreatDoor
