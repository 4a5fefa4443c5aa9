import Derived.Test.YtjlkkofmojgipaaGreatDoorTAQ
import Derived.Laws.AppendOwnNone
import Derived.Test.YtjlkkofmojgipaaGreatDoorTAF
import Derived.Shelf.Spec.TrailingZeros
import Derived.Lib.LaidTab
import Derived.WalkSmall
import Derived.Maps.OwnOps
import Derived.Maps.Views
import Derived.WalkKit
namespace Go.Proofs.YtjlkkofmojgipaaGreatDoor
set_option linter.unusedVariables false
set_option linter.unusedSimpArgs false
open Go.RowKit
theorem infoRowU:(Tryz.prog.info? 26).map (fun i=>(i.zero,i.size,i.bytes))=some (some (.slice none 0 0),1,24):=by kernel_rfl
def castS (l:List (List Nat)):List (List Int):=l.map fun S:List Nat=>S.map fun x:Nat=>(x:Int)
theorem castS_append (a b:List (List Nat)):castS (a++b)=castS a++castS b:=by unfold castS;rw [List.map_append]
def folS (S:List Nat) (d:Nat):List (List Nat):=(List.range' (fromS S) d).map fun x=>S++[x]
theorem folS_succ (S:List Nat) (d:Nat):folS S (d+1)=folS S d++[S++[fromS S+d]]:=by
 unfold folS
 rw [List.range'_concat,List.map_append]
 simp
theorem growS_succ {n i:Nat} {L:List (List Nat)} {S:List Nat} (h:L[i]?=some S):growS n (L.take (i+1))=growS n (L.take i)++folS S (n-fromS S):=by
 unfold growS folS
 rw [List.take_add_one,h]
 simp
theorem growS_len (n:Nat):∀ l:List (List Nat),(growS n l).length≤l.length*n
 | []=>by simp [growS]
 | S::l=>by
  have h:=growS_len n l
  have e:growS n (S::l)=folS S (n-fromS S)++growS n l:=by unfold growS folS;rw [List.flatMap_cons]
  rw [e,List.length_append,List.length_cons,Nat.succ_mul]
  have:(folS S (n-fromS S)).length=n-fromS S:=by simp [folS]
  omega
theorem fromS_get {S:List Nat} {k:Nat} (hk:S.length=k+1):∃ x,S[k]?=some x∧fromS S=x+1:=by
 unfold fromS
 have:S.getLast?=S[k]?:=by rw [List.getLast?_eq_getElem?,hk];rfl
 rw [this]
 have hx:S[k]?=some (S[k]'(by omega)):=List.getElem?_eq_getElem _
 exact ⟨_,hx,by rw [hx]⟩
theorem fromS_le {S:List Nat} {n:Nat} (h:∀ x∈S,x<n):fromS S≤n:=by
 unfold fromS
 cases e:S.getLast? with
 | none=>exact Nat.zero_le _
 | some x=>exact h x (List.mem_of_getLast? e)
theorem wp_append_copyI {o:Oper} {a:Act} {K:Act→World→Prop} {Q:Exit→Act→World→Prop} (s x:Operand)
  (ho:o.op=.call { callee:=.builtin .append,args:=#[s,x],argTypes:=#[26,26] })
  (w:World) (xs:List Int) (v:Value) (h:Ints w v xs) (hlen:xs.length≤1000000) (hs:a.eval s=.slice (some ⟨w.heap.size,0,none⟩) 0 0) (hx:a.eval x=v)
  (hK:∀ v' w',OwnR w.heap.size w' v' xs→Ext w w'→K (a.put o.dst v') w'):o.wp Tryz.prog a (w.alloc (.cells #[] 3)) K Q:=by
 obtain ⟨ad,c,rfl,h1,h2,h3,hb,hc⟩:=h.open
 obtain ⟨i0,hi,hz0,hz1,hz2⟩:=info_parts infoInt
 have hown:(w.alloc (.cells #[] 3)).ownsRow w.heap.size 3 1 (.slice (some ⟨w.heap.size,0,none⟩) 0 0) 0 []:=World.ownsRow_made w #[] 0 (Nat.le_refl _) (Nat.zero_le _) rfl
 cases ad with
 | none =>
  have h0:xs=[]:=by have:=h3 rfl;exact List.eq_nil_of_length_eq_zero (by omega)
  subst h0
  obtain rfl:c=0:=h3 rfl
  have hrun:=run_append_owned_none (P:=Tryz.prog) (w:=w.alloc (.cells #[] 3)) w.heap.size 26 o.type 3 i0 1 Tryz.underlying26 hi _ 0 [] hown
  unfold Oper.wp
  simp [execOp,ho,resolve,invoke,builtin,hs,hx,hrun,Result.andThen]
  exact hK _ _ hown (Ext.alloc _ _)
 | some ad =>
  have hnews:∀ (j:Nat) (u:Value),(xs.map (Value.int .i64))[j]?=some u→(w.alloc (.cells #[] 3)).cell? (ad.add j)=some u:=by
   intro j u hu
   rw [List.getElem?_map] at hu
   cases hj:xs[j]? with
   | none=>simp [hj] at hu
   | some x =>
    simp [hj] at hu;subst hu
    obtain ⟨b,off,hab,hbw,hcell⟩:=hc (by intro e;simp [e] at hj)
    cases hab
    have:=hcell j x hj
    rw [show (⟨b,off,none⟩:Addr).add j=⟨b,off+j,none⟩ by unfold Addr.add;split <;> simp_all]
    exact Ext.cell (Ext.alloc w _) this
  refine wp_append_own_at (w.alloc (.cells #[] 3)) s x 26 ho w.heap.size 3 i0 (.int .i64 0) 1 8 Tryz.underlying26 hi hz0 hz1 hz2 rfl (by decide) _ 0 [] hs hown ad xs.length c (xs.map (Value.int .i64)) hx (by simp) hnews (ints_oneCell _ _) (by unfold maxLen;omega) (by omega) (by simp) ?_
  intro v' w' hown' hgrow _ _
  refine hK v' w' (by simpa [OwnR] using hown') (Below.grown (Ext.alloc w _) hgrow (by simp) (by intro k hk;simp [Value.ownBlock] at hk;omega))
theorem wpList_append_copyI {ops:Array Oper} {rest:List Oper} {o:Oper} {a:Act} {Q:Exit→Act→World→Prop} (hgd:o.guard=none) (s x:Operand)
  (ho:o.op=.call { callee:=.builtin .append,args:=#[s,x],argTypes:=#[26,26] })
  (w:World) (xs:List Int) (v:Value) (h:Ints w v xs) (hlen:xs.length≤1000000) (hs:a.eval s=.slice (some ⟨w.heap.size,0,none⟩) 0 0) (hx:a.eval x=v)
  (hK:∀ v' w',OwnR w.heap.size w' v' xs→Ext w w'→wpList Tryz.prog ops Q rest (a.put o.dst v') w'):wpList Tryz.prog ops Q (o::rest) a (w.alloc (.cells #[] 3)) :=
 wpList_plain hgd fun _ hk=>wp_append_copyI s x ho w xs v h hlen hs hx fun v' w' a1 a2=>hk _ _ (hK v' w' a1 a2)
theorem wpList_append_one {ops:Array Oper} {rest:List Oper} {o:Oper} {a:Act} {Q:Exit→Act→World→Prop} (hgd:o.guard=none) (w:World) (s x:Operand) (T2:TypeId) (ht2:Tryz.prog.underlying T2=some (TypeDesc.slice 3)) (ho:o.op=Op.call { callee:=Callee.builtin Builtin.append,args:=#[s,x],argTypes:=#[T2,T2] }) (B:Nat)
  (v:Value) (l:List Int) (y:Int) (u:Array Value) (T:TypeId) (hs:a.eval s=v) (hB:OwnR B w v l) (hx:a.eval x=.slice (some ⟨w.heap.size,0,none⟩) 1 1) (hu:u=#[.int .i64 y]) (hlen:l.length<1000000) (hbase:B≤w.heap.size)
  (h:∀ v' w',OwnR B w' v' (l++[y])→Below B w w'→wpList Tryz.prog ops Q rest (a.put o.dst v') w'):wpList Tryz.prog ops Q (o::rest) a (w.alloc (.cells u T)) :=
 wpList_plain hgd fun _ hk=>wp_append_int w s x T2 ht2 ho B v l y u T hs hB hx hu hlen hbase fun v' w' a1 a2=>hk _ _ (h v' w' a1 a2)
theorem nil1_lit (w:World) (T:TypeId):Rows2 (w.alloc (.cells #[.slice none 0 0] T)) (.slice (some ⟨w.heap.size,0,none⟩) 1 1) [[]] :=
 ListAt.lit (R:=Ints) (fun _ _ _ _ he h=>Ints.ext h he) w [.slice none 0 0] [[]] T rfl (by unfold maxLen;simp) (fun j u x hu hx=>by
  match j with
  | 0=>simp only [List.getElem?_cons_zero,Option.some.injEq] at hu hx;subst hu;subst hx;exact ⟨[],rfl,by simp,⟨none,0,rfl,Nat.le_refl _,Nat.zero_le _,fun _=>rfl,fun h=>absurd rfl h⟩,by simp⟩
  | j+1=>simp at hu)
theorem castS_bd {n:Nat} {L:List (List Nat)} (hn:n≤12) (h:∀ S∈L,∀ x∈S,x<n):∀ r∈castS L,∀ x∈r,-9223372036854775808≤x∧x≤(9223372036854775807:Int):=by
 intro r hr x hx
 unfold castS at hr
 obtain ⟨S,hS,rfl⟩:=List.mem_map.1 hr
 obtain ⟨y,hy,rfl⟩:=List.mem_map.1 hx
 have:=h S hS y hy
 omega
set_option maxRecDepth 100000 in
set_option maxHeartbeats 2000000 in
theorem refSets_any (n k:Nat) (hn:n≤12) (hk:k≤n) (w:World) :
  Calls Tryz.prog 33 #[.int .i64 (n:Int),.int .i64 (k:Int)] w fun e w'=>∃ v,e=.returned v∧Rows2 w' v (castS (setsL n k))∧Ext w w':=by
 have HNL:Hid (∀ s,s≤n→(∀ S∈setsL n s,S.length=s∧∀ x∈S,x<n)∧(setsL n s).length≤1000):=fun s hs=>by
  obtain ⟨h1,h2,h3⟩:=sets_ok hn hs
  exact ⟨fun S hS=>⟨h1.len S hS,h1.lt S hS⟩,h3⟩
 have HN:=Lib.hid hn
 go_enter Tryz.func33,Tryz.ntmps33
 go_wp2_with fail
 go_loopw [6,5] (fun t v wr=>∃ s:Nat,s≤k∧t=.int .i64 s∧Ext w wr∧Hid (Rows2 wr v (castS (setsL n s)))) (fun t _ _=>k-(intOf t).toNat)
 case atStart=>exact ⟨0,by omega,rfl,Ext.alloc _ _,nil1_lit w _⟩
 case round =>
  obtain ⟨s,hs,rfl,hE,HR⟩:=hrel
  obtain ⟨wo,rfl⟩:∃ wo:World,wo=wr:=⟨_,rfl⟩
  by_cases hlt:s<k
  ·obtain ⟨L,hL⟩:∃ L,L=setsL n s:=⟨_,rfl⟩
   obtain ⟨hL1,hL2⟩:=HNL.out s (by omega)
   rw [← hL] at HR hL1 hL2
   have HLD:=Lib.hid hL
   have HL1:=Lib.hid hL1
   clear hL hL1
   obtain ⟨a,c,rfl,hx1,hx2,-,hx⟩:=inCell.open HR.out
   have hcl:(castS L).length=L.length:=by simp [castS]
   rw [hcl] at hx1 ⊢
   have HX:=Lib.hid hx
   clear hx hcl
   unfold maxLen at hx2
   go_wp2_with fail
   go_loopw [7,8] (fun nx t wq=>∃ (i:Nat) (tags:List (Nat×Nat)),i≤L.length∧t=.int .i64 i∧Hid (Ext wo wq)∧Hid (RowsO intK 26 wq wo.heap.size wo.heap.size nx tags (castS (growS n (L.take i))))) (fun _ t _=>L.length-(intOf t).toNat)
   case atStart=>exact ⟨0,[],by omega,rfl,Ext.refl _,RowsO.nil _ _ _ _ _⟩
   case round =>
    obtain ⟨i,tags,hi,rfl,HE2,HO⟩:=hrel
    obtain ⟨wi,rfl⟩:∃ wi:World,wi=wr:=⟨_,rfl⟩
    by_cases hil:i<L.length
    ·obtain ⟨S,hS⟩:∃ S,L[i]?=some S:=⟨L[i],List.getElem?_eq_getElem hil⟩
     obtain ⟨hSl,hSn⟩:=HL1.out S (List.mem_of_getElem? hS)
     obtain ⟨b,off,rfl,hb,hc⟩:=HX.out (by intro e;have:=congrArg List.length e;simp [castS] at this;rw [this] at hil;simp at hil)
     obtain ⟨p,hp,hcell⟩:=hc i (S.map fun x:Nat=>(x:Int)) (by unfold castS;rw [List.getElem?_map,hS];rfl)
     obtain ⟨a2,c2,rfl,hy1,hy2,hy3,hy4,hy5⟩:=Ints.open (Ints.ext hp HE2.out)
     have HP:=Lib.hid hp
     have HG0:=Lib.hid hcell
     have g1:=HE2.out.cell hcell
     have HSn:=Lib.hid hSn
     have hml:(S.map fun x:Nat=>(x:Int)).length=s:=by simp [hSl]
     have hff:=fromS_le hSn
     have HG1:=Lib.hid (growS_succ (n:=n) hS)
     have HSl:=Lib.hid hSl
     clear hp hcell hc hb hSn hS hSl hy4
     rw [hml] at HP HG0 g1 hy1
     unfold maxLen at hy2
     obtain ⟨f,hf⟩:∃ f,f=fromS S:=⟨_,rfl⟩
     rw [← hf] at hff
     have HF:=Lib.hid hf
     clear hml hf
     go_upto_if 24 with fail
     go_cut [9] from 25 to 33 (fun t wx=>t=.int .i64 (f:Int)∧wx=wi)
     case first =>
      cases s with
      | zero =>
       obtain rfl:f=0:=by rw [HF.out,List.eq_nil_of_length_eq_zero HSl.out];rfl
       go_wp2_with fail
       go_meet
       exact ⟨rfl,rfl⟩
      | succ s =>
       obtain ⟨x,hx,hfx⟩:=fromS_get HSl.out
       obtain rfl:f=x+1:=by rw [HF.out,hfx]
       obtain ⟨b2,off2,rfl,hb2,hcc⟩:=hy5 (by intro e;have:=congrArg List.length e;rw [List.length_map,HSl.out] at this;simp at this)
       have g2:=hcc s (x:Int) (by rw [List.getElem?_map,hx];rfl)
       clear hcc hx hfx
       go_wp2_with fail
       go_meet
       exact ⟨by go_num,rfl⟩
     case rest =>
      obtain ⟨rfl,rfl⟩:=hcut
      obtain ⟨wi,rfl⟩:∃ wi:World,wi=wc:=⟨_,rfl⟩
      go_wp2_with fail
      go_loopw [7,10] (fun nx t wq=>∃ (d:Nat) (tags:List (Nat×Nat)),f+d≤n∧t=.int .i64 (f+d:Nat)∧Hid (Ext wo wq)∧Hid (RowsO intK 26 wq wo.heap.size wo.heap.size nx tags (castS (growS n (L.take i)++folS S d)))) (fun _ t _=>n-(intOf t).toNat)
      case atStart=>exact ⟨0,tags,by omega,rfl,HE2.out,by rw [show folS S 0=[] from rfl,List.append_nil];exact HO.out⟩
      case round =>
       obtain ⟨d,tg,hd,rfl,HE3,HO3⟩:=hrel
       obtain ⟨wx,rfl⟩:∃ wx:World,wx=wr:=⟨_,rfl⟩
       by_cases hdn:f+d<n
       ·have g3:=HE3.out.cell HG0.out
        have g4:=(Ext.alloc wx (.cells #[] 3)).cell g3
        have HP3:=Lib.hid (Ints.ext HP.out HE3.out)
        go_wp2_with (at_builtin;go_must (refine wpList_append_copyI rfl _ _ rfl wx (S.map fun x:Nat=>(x:Int)) _ HP3.out ?c1 rfl rfl ?_))
        case c1=>rw [List.length_map,HSl.out];omega
        intro v1 w1 hO1 hE1
        have HO1:=Lib.hid hO1
        have HE4:=Lib.hid hE1
        have HS1:Hid (wx.heap.size≤w1.heap.size):=hE1.size
        clear hO1 hE1
        go_wp2_with (at_builtin;go_must (refine wpList_append_one rfl w1 _ _ _ Tryz.underlying26 rfl wx.heap.size v1 (S.map fun x:Nat=>(x:Int)) ((f:Int)+(d:Int)) _ _ rfl HO1.out rfl rfl ?c2 HS1.out ?_))
        case c2=>rw [List.length_map,HSl.out];omega
        intro v2 w2 hO2 hB2
        have hO2b:=hO2
        unfold OwnR at hO2b
        obtain ⟨g,cg,rfl,hg1,hg2,hg3,hg4⟩:=owns_shape hO2b (by simp)
        have hRI:=RowI.ofOwn hO2b
        have hlen:((S.map fun x:Nat=>(x:Int))++[((f:Int)+(d:Int))]).length=s+1:=by simp [HSl.out]
        rw [hlen] at hg3
        rw [hlen]
        have HRI:=Lib.hid hRI
        have HLN:=Lib.hid hlen
        have HE5:Hid (Ext wx w2):=Below.trans HE4.out hB2
        have HO5:=Lib.hid (HO3.out.ext HE5.out)
        have HSZ:Hid (wo.heap.size≤wi.heap.size∧wo.heap.size≤wx.heap.size∧wx.heap.size≤g∧wx.heap.size≤w2.heap.size):=⟨HE2.out.size,HE3.out.size,hg1,HE5.out.size⟩
        have HV:Hid (u7.ownBlock≠some g):=fun e=>by have:=(HO3.out.own.lt _ e).2;omega
        have HNT:Hid (g∉tg.map (·.1)):=fun e=>by have:=(HO3.out.fresh e).2;omega
        have HC:Hid (s+1≤cg∧cg≤9223372036854775807):=⟨hg3,by unfold maxLen at hg4;omega⟩
        have HLL:Hid ((castS (growS n (L.take i)++folS S d)).length<1000000):=by
         have h1:=growS_len n (L.take i)
         have h2:(L.take i).length*n≤1000*12:=Nat.mul_le_mul (by rw [List.length_take];omega) HN.out
         unfold Hid castS folS
         rw [List.length_map,List.length_append,List.length_map,List.length_range']
         omega
        clear hO2 hO2b hB2 hg1 hg2 hg3 hg4 hRI hlen
        go_wp2_with (at_builtin;go_must (refine wpList_append_rowO (K:=intK) (e:=26) Tryz.underlying58 infoRowU w2 rfl _ _ rfl wo.heap.size wo.heap.size u7 tg (castS (growS n (L.take i)++folS S d)) (g,cg) ((S.map fun x:Nat=>(x:Int))++[((f:Int)+(d:Int))]) _ _ rfl HO5.out rfl ?d1 ?d2 ?d3 HRI.out ?d4 HV.out HNT.out HLL.out ?d5 ?_))
        case d1=>rw [HLN.out];rfl
        case d2=>rw [HSl.out];exact HC.out.1
        case d3=>exact HC.out.2
        case d4=>have:=HSZ.out;show wo.heap.size≤g;omega
        case d5=>have:=HSZ.out;omega
        intro v3 w3 hO6 hB6 _
        have HO6:=Lib.hid hO6
        have HX6:Hid (Ext wo w3):=Below.trans (Ext.trans HE3.out HE5.out) hB6
        clear hO6 hB6
        have e6:castS (growS n (L.take i)++folS S d)++[(S.map fun x:Nat=>(x:Int))++[((f:Int)+(d:Int))]]=castS (growS n (L.take i)++folS S (d+1)):=by
         rw [folS_succ,← HF.out,← List.append_assoc,castS_append _ [S++[f+d]]]
         simp [castS]
        rw [e6] at HO6
        clear e6
        go_wp2_with fail
        go_roundw
        case rel=>exact ⟨d+1,_,by omega,by go_num,HX6.out,HO6.out⟩
        case measure=>simp [intOf];omega
       ·obtain rfl:d=n-f:=by omega
        have HR3:=Lib.hid HO3.out
        rw [HF.out,← HG1.out] at HR3
        have HE4:=Lib.hid HE3.out
        go_wp2_with fail
        go_roundw
        case rel=>exact ⟨i+1,tg,by omega,by go_num,HE4.out,HR3.out⟩
        case measure=>simp [intOf];omega
    ·obtain rfl:i=L.length:=by omega
     have HF:Hid (growS n L=setsL n (s+1)):=by unfold Hid;rw [HLD.out];rfl
     rw [List.take_length,HF.out] at HO
     have HR2:=Lib.hid (HO.out.rows2 (castS_bd HN.out fun S hS=>((HNL.out (s+1) (by omega)).1 S hS).2))
     go_wp2_with fail
     go_roundw
     case rel=>exact ⟨s+1,by omega,by go_num,hE.trans HE2.out,HR2.out⟩
     case measure=>simp [intOf];omega
  ·obtain rfl:s=k:=by omega
   go_wp2_with fail
   go_ret
   exact ⟨_,rfl,HR.out,hE⟩
def Bruijn (w : World) : Prop := Lib.TabIs Tryz.prog w "math/bits.deBruijn64tab" .u8 (Lib.deBruijn64tab.map fun x : Nat => (x : Int))
theorem Bruijn.ext {w w':World} (h:Bruijn w) (he:Ext w w'):Bruijn w':=by
 unfold Bruijn Lib.TabIs at h ⊢
 cases hg : Tryz.prog.globalNamed "math/bits.deBruijn64tab" with
 | none=>simp [World.var?,hg] at h
 | some g =>
  refine var?_below he hg ?_ h
  by_cases hlt:g<w.heap.size
  ·exact hlt
  ·simp [World.var?,hg,Array.getElem?_eq_none (show w.heap.size≤g by omega)] at h
theorem Bruijn.at {w:World} (h:Bruijn w):TabAt 1 Lib.deBruijn64tab w:=by
 intro j hj
 have hg : Tryz.prog.globalNamed "math/bits.deBruijn64tab" = some 1 := by kernel_rfl
 have:=World.var?_cell hg h j
 rw [this]
 simp [List.getElem?_map,List.getElem?_eq_getElem hj,List.getD_eq_getElem?_getD]
theorem ctz_low:∀ s,s<4096→s≠0→Lib.ctz 64 s=lowB s:=by
 have h:∀ a,a<64→∀ b,b<64→64*a+b≠0→Lib.ctz 64 (64*a+b)=lowB (64*a+b):=by decide +kernel
 intro s hs h0
 have:=h (s / 64) (by omega) (s%64) (by omega) (by omega)
 rwa [Nat.div_add_mod] at this
def natsI (l:List Nat):List Int:=l.map fun x:Nat=>(x:Int)
theorem membL_all {s:Nat}:∀ x∈membL s,x<12:=fun x hx=>List.mem_range.1 (List.mem_filter.1 hx).1
theorem membL_len (s:Nat):(membL s).length≤12:=Nat.le_trans (List.length_filter_le _ _) (by simp)
theorem membL_zero:membL 0=[]:=by decide +kernel
def popA (x:Int):Int:=IntKind.u64.wrap (bits BinOp.and IntKind.u64 (x / 2) 6148914691236517205+bits BinOp.and IntKind.u64 x 6148914691236517205)
def popB (a:Int):Int:=IntKind.u64.wrap (bits BinOp.and IntKind.u64 (a / 4) 3689348814741910323+bits BinOp.and IntKind.u64 a 3689348814741910323)
def popC (b:Int):Int:=bits BinOp.and IntKind.u64 (IntKind.u64.wrap (b / 16+b)) 1085102592571150095
def popD (k c:Int):Int:=IntKind.u64.wrap (c+c / k)
def popE (x:Int):Int:=bits BinOp.and IntKind.i64 (wrap64 (popD 4294967296 (popD 65536 (popD 256 (popC (popB (popA x))))))) 127
theorem popE_ok:∀ s:Nat,s<4096→popE (s:Int)=((membL s).length:Int):=by
 have h:∀ a:Nat,a<64→∀ b:Nat,b<64→popE ((64*a+b:Nat):Int)=((membL (64*a+b)).length:Int):=by decide +kernel
 intro s hs
 have:=h (s / 64) (by omega) (s%64) (by omega)
 rwa [Nat.div_add_mod] at this
set_option maxRecDepth 100000 in
set_option maxHeartbeats 1000000 in
theorem ones64_any (x:Nat) (hx:x<4096) (w:World) :
  Calls Tryz.prog 177 #[.int .u64 x] w fun e w'=>e=.returned (.int .i64 ((membL x).length:Int))∧w'=w:=by
 have h1:IntKind.u64.wrap (x:Int)=(x:Int):=by rw [IntKind.wrap_u64];omega
 go_enter Tryz.func177,Tryz.ntmps177
 go_wp2_with fail
 go_ret
 refine ⟨?_,rfl⟩
 show Ending.returned (.int .i64 (popE (x:Int)))=_
 rw [popE_ok x hx]
set_option maxRecDepth 100000 in
set_option maxHeartbeats 1000000 in
theorem ones_any (x:Nat) (hx:x<4096) (w:World) :
  Calls Tryz.prog 125 #[.int .u64 x] w fun e w'=>e=.returned (.int .i64 ((membL x).length:Int))∧w'=w:=by
 have HC:=Lib.hid (ones64_any x hx w)
 have h1:IntKind.u64.wrap (x:Int)=(x:Int):=by rw [IntKind.wrap_u64];omega
 go_enter Tryz.func125,Tryz.ntmps125
 go_wp2_with fail
 refine HC.out.mono ?_
 rintro e w2 ⟨rfl,hw2⟩
 obtain rfl:=hw2.symm
 clear HC
 go_wp2_with fail
 go_ret
 exact ⟨rfl,rfl⟩
theorem below_and (t i:Nat):(membL (t &&& (2^i-1))).length=belowN t i:=by
 unfold belowN membL
 rw [List.filter_filter]
 congr 1
 refine List.filter_congr fun j _=>?_
 rw [Nat.testBit_and,Nat.testBit_two_pow_sub_one,Bool.and_comm]
theorem belowN_le (t i:Nat):belowN t i≤12:=Nat.le_trans (List.length_filter_le _ _) (membL_len t)
theorem sum_below (t:Nat):∀ l:List Nat,(l.map (belowN t)).sum≤12*l.length
 | []=>by simp
 | x::l=>by
  have:=belowN_le t x;have:=sum_below t l
  simp only [List.map_cons,List.sum_cons,List.length_cons];omega
theorem lowB_lt {x:Nat} (hx:x<4096) (h0:x≠0):lowB x<12:=by
 have:=membL_step x hx h0
 exact membL_all (s:=x) (lowB x) (by rw [this];exact List.mem_cons_self)
theorem low_and {x:Nat} (hx:x<4096) (h0:x≠0):x &&& (18446744073709551616-x)=2^lowB x:=by
 obtain ⟨hlow,hk⟩:=Lib.lowest_bit 64 x h0 (by omega)
 rw [ctz_low x hx h0] at hlow
 exact hlow
set_option maxRecDepth 100000 in
set_option maxHeartbeats 1000000 in
theorem odd_any (s t:Nat) (hs:s<4096) (ht:t<4096) (w:World) :
  Calls Tryz.prog 65 #[.int .u64 s,.int .u64 t] w fun e w'=>e=.returned (.bool (oddW s t))∧w'=w:=by
 have HS:=Lib.hid hs;have HT:=Lib.hid ht
 go_enter Tryz.func65,Tryz.ntmps65
 go_wp2_with fail
 go_loopw [5,6] (fun c v wr=>∃ (x n:Nat) (l:List Nat),v=.int .u64 x∧c=.int .i64 n∧Hid (x<4096∧l++membL x=membL s∧n=(l.map (belowN t)).sum)∧wr=w) (fun _ v _=>(intOf v).toNat)
 case atStart=>exact ⟨s,0,[],rfl,rfl,⟨HS.out,rfl,rfl⟩,rfl⟩
 case round =>
  obtain ⟨x,n,l,rfl,rfl,HX,hwr⟩:=hrel
  subst hwr
  have hn:n≤144:=by
   obtain ⟨-,h2,h3⟩:=HX.out
   have h4:=sum_below t l
   have h5:=congrArg List.length h2
   rw [List.length_append] at h5
   have:=membL_len s
   omega
  by_cases h0:x=0
  ·subst h0
   have HF:Hid (oddW s t=decide (n%2=1)):=by
    obtain ⟨-,h2,h3⟩:=HX.out
    rw [membL_zero,List.append_nil] at h2
    unfold Hid oddW
    rw [h3,h2]
   go_wp2_with fail
   go_ret
   refine ⟨?_,rfl⟩
   rw [HF.out]
   have hb:((n:Int)%2 == 1)=decide (n%2=1):=by
    by_cases h:n%2=1
    ·rw [decide_eq_true h];exact beq_iff_eq.2 (by omega)
    ·rw [decide_eq_false h];exact beq_eq_false_iff_ne.2 (by omega)
   rw [← hb];rfl
  ·have hx:=HX.out.1
   have hm:=membL_step x hx h0
   have hlt:=and_pred_lt x hx h0
   have hx0:((x:Int) == 0)=false:=beq_eq_false_iff_ne.2 (by omega)
   have hi:=lowB_lt hx h0
   have hp:2^lowB x≤2048:=by
    have:2^lowB x≤2^11:=Nat.pow_le_pow_right (by decide) (by omega)
    simpa using this
   have hp1:1≤2^lowB x:=Nat.one_le_two_pow
   have e1:IntKind.u64.wrap ((x:Int)-1)=((x-1:Nat):Int):=by rw [IntKind.wrap_u64];omega
   have e2:=bits_and_u64_nat x (x-1) (by omega) (by omega)
   have e3:IntKind.u64.wrap (-(x:Int))=((18446744073709551616-x:Nat):Int):=by rw [IntKind.wrap_u64];omega
   have e4:=bits_and_u64_nat x (18446744073709551616-x) (by omega) (by omega)
   rw [low_and hx h0] at e4
   obtain ⟨i,hi2⟩:∃ i,lowB x=i:=⟨_,rfl⟩
   rw [hi2] at e4 hp hp1 hm hi
   have HQ:Hid ((membL (t &&& (2^i-1))).length=belowN t i):=below_and t i
   obtain ⟨p,hp2⟩:∃ p,2^i=p:=⟨_,rfl⟩
   rw [hp2] at e4 hp hp1 HQ
   have e5:IntKind.u64.wrap ((p:Int)-1)=((p-1:Nat):Int):=by rw [IntKind.wrap_u64];omega
   have e6:=bits_and_u64_nat t (p-1) (by omega) (by omega)
   have hq:t &&& (p-1)<4096:=Nat.lt_of_le_of_lt Nat.and_le_left HT.out
   obtain ⟨q,hq2⟩:∃ q,t &&& (p-1)=q:=⟨_,rfl⟩
   rw [hq2] at e6 HQ hq
   have HC:=Lib.hid (ones_any q hq wr)
   rw [HQ.out] at HC
   have hb:=belowN_le t i
   have HM:Hid ((l++[i])++membL (x &&& (x-1))=membL s∧n+belowN t i=((l++[i]).map (belowN t)).sum):=by
    obtain ⟨-,h2,h3⟩:=HX.out
    refine ⟨by rw [← h2,hm,List.append_assoc];rfl,by simp [h3]⟩
   obtain ⟨bb,hbb⟩:∃ bb,belowN t i=bb:=⟨_,rfl⟩
   rw [hbb] at HC HM hb
   obtain ⟨y,hy⟩:∃ y,x &&& (x-1)=y:=⟨_,rfl⟩
   rw [hy] at e2 HM hlt
   have HLT:=Lib.hid hlt
   have e7:wrap64 ((n:Int)+(bb:Int))=((n+bb:Nat):Int):=by rw [wrap64];omega
   clear hm hlt hy HQ hq2 hp2 hi2 hbb hq
   go_wp2_with fail
   refine HC.out.mono ?_
   rintro e w2 ⟨rfl,hw2⟩
   obtain rfl:=hw2.symm
   clear HC
   go_wp2_with fail
   go_roundw
   case rel=>exact ⟨y,n+bb,l++[i],rfl,by go_num,⟨Nat.lt_trans HLT.out HX.out.1,HM.out.1,HM.out.2⟩,trivial⟩
   case measure=>have:=HLT.out;simp [intOf];omega
end Go.Proofs.YtjlkkofmojgipaaGreatDoor
namespace Go.Proofs.YtjlkkofmojgipaaGreatDoor
set_option linter.unusedVariables false
set_option linter.unusedSimpArgs false
open Go.RowKit Go.Maps
theorem place_all:∀ n,n<7→∀ k,k<n+1→(List.range (allW n k).length).all (fun i=>decide (placeW n k ((allW n k).getD i 0)=i))=true:=by decide +kernel
theorem place_at {n k i s:Nat} (hn:n<7) (hk:k≤n) (h:(allW n k)[i]?=some s):placeW n k s=i:=by
 have h1:=List.all_eq_true.1 (place_all n hn k (by omega)) i (List.mem_range.2 (List.getElem?_eq_some_iff.1 h).1)
 rw [List.getD_eq_getElem?_getD,h] at h1
 exact of_decide_eq_true h1
theorem lawU:Keyed Tryz.prog 100:=int_keyed Tryz.underlying100
theorem zeroI (w:World):(zeroValue 3).run Tryz.prog w=.ok (.int .i64 0) w:=by kernel_rfl
theorem wf_u64 {s:Nat} (h:s<4096):(Lit.int .u64 (s:Int)).wf=true:=by
 have h1:IntKind.u64.min=0:=by decide
 have h2:IntKind.u64.max=18446744073709551615:=by decide
 show (decide (IntKind.u64.min≤(s:Int)) && decide ((s:Int)≤IntKind.u64.max))=true
 rw [h1,h2,Bool.and_eq_true,decide_eq_true_eq,decide_eq_true_eq];omega
theorem keyU {s:Nat} (h:s<4096):keyOf Tryz.prog 100 (.int .u64 (s:Int))=some (.int .u64 (s:Int)):=keyOf_int_mk Tryz.underlying100 (wf_u64 h)
def PlacesIn (w:World) (b N n k:Nat) (L:List Nat):Prop:=∃ D:DataW Unit,w.ownsMap Tryz.prog 100 (plainElem Tryz.prog 3) b N D∧IsMap D∧∀ s∈L,D.atKey (.int .u64 (s:Int)) (.lit (.int .i64 0))=.lit (.int .i64 (placeW n k s:Int))
def PlacesM (w:World) (v:Value) (n k:Nat):Prop:=∃ b N,v=.map (some b)∧PlacesIn w b N n k (allW n k)
theorem PlacesIn.kept {w w':World} {b N n k:Nat} {L:List Nat} {o:Option Nat} (h:PlacesIn w b N n k L) (hg:w.grownBy w' o) (hne:some b≠o):PlacesIn w' b N n k L:=by
 obtain ⟨D,h1,h2,h3⟩:=h
 exact ⟨D,h1.kept hg hne,h2,h3⟩
theorem PlacesIn.ext {w w':World} {b N n k:Nat} {L:List Nat} (h:PlacesIn w b N n k L) (he:Ext w w'):PlacesIn w' b N n k L:=h.kept (he.grown none) (by simp)
theorem PlacesM.ext {w w':World} {v:Value} {n k:Nat} (h:PlacesM w v n k) (he:Ext w w'):PlacesM w' v n k:=by
 obtain ⟨b,N,hv,h1⟩:=h
 exact ⟨b,N,hv,h1.ext he⟩
theorem isMap_put {D:DataW Unit} (h:IsMap D) (k:Lit) (d:DataW Unit):IsMap (D.put k d):=by
 obtain ⟨es,rfl⟩:=h
 exact ⟨_,rfl⟩
theorem PlacesIn.made (w:World) (n k:Nat):PlacesIn (w.alloc (.map #[] 0)) w.heap.size 0 n k []:=⟨.map [],World.ownsMap_made _ _ _ _,⟨_,rfl⟩,fun s hs=>by cases hs⟩
set_option maxRecDepth 100000 in
set_option maxHeartbeats 1000000 in
theorem places_any (n k:Nat) (hn:n<7) (hk:k≤n) (w:World):Calls Tryz.prog 59 #[.int .i64 n,.int .i64 k] w fun e w'=>∃ v,e=.returned v∧Ext w w'∧PlacesM w' v n k:=by
 have hmm:=@run_makeMap Tryz.prog
 obtain ⟨w1,hw1⟩:∃ w1,w1=w.alloc (.map #[] 0):=⟨_,rfl⟩
 have HM:=Lib.hid (PlacesIn.made w n k)
 rw [← hw1] at HM
 have HE1:Hid (Ext w w1):=by rw [hw1];exact Ext.alloc _ _
 have hsz:w1.heap.size=w.heap.size+1:=by rw [hw1];exact World.size_alloc w _
 have HSZ:=Lib.hid hsz
 have HC:=Lib.hid (all_any n k (by omega) hk w1)
 have HLT:=Lib.hid (allW_lt (n:=n) (k:=k) (by omega) hk)
 have HLN:=Lib.hid (allW_len (n:=n) (k:=k) (by omega) hk)
 have HPL:Hid (∀ i s,(allW n k)[i]?=some s→placeW n k s=i):=fun i s h=>place_at hn hk h
 clear hsz
 obtain ⟨L,hL⟩:∃ L,allW n k=L:=⟨_,rfl⟩
 rw [hL] at HC HLT HLN HPL
 have HLL:=Lib.hid hL
 clear hL
 go_enter Tryz.func59,Tryz.ntmps59
 go_wp2_with fail
 generalize hw9:w.alloc _=w9
 obtain rfl:w9=w1:=by rw [← hw9,hw1]
 refine HC.out.mono ?_
 rintro e w2 ⟨v,rfl,h2,hU⟩
 obtain ⟨a,cap,rfl,hc1,hc2,hcx⟩:=hU.open
 unfold maxLen at hc2
 have HE2:Hid (Ext w w2):=HE1.out.trans h2
 have HM2:=Lib.hid (HM.out.ext h2)
 have HS2:Hid (w.heap.size<w2.heap.size):=by have:=h2.size;have:=HSZ.out;unfold Hid;omega
 have HCX:=Lib.hid hcx
 clear h2 hU hcx HC HM hw1 hw9
 obtain ⟨N,hN⟩:∃ N,L.length=N:=⟨_,rfl⟩
 have HNN:=Lib.hid hN
 rw [hN] at hc1 ⊢
 clear hN
 go_wp2_with fail
 go_loopw [13] (fun t wr=>∃ i:Nat,i≤N∧t=.int .i64 (i:Int)∧Hid (Ext w wr)∧Hid (w2.grownBy wr (some w.heap.size))∧Hid (PlacesIn wr w.heap.size i n k (L.take i))) (fun t _=>N+1-(intOf t).toNat)
 case atStart=>exact ⟨0,by omega,by simp,HE2.out,World.grownBy.refl _ _,HM2.out⟩
 case round =>
  obtain ⟨i,hi,rfl,HX,HG,HP⟩:=hrel
  by_cases hlt:i<N
  ·obtain ⟨s,hs⟩:∃ s,L[i]?=some s:=by
    rw [← HNN.out] at hlt
    exact ⟨_,List.getElem?_eq_getElem hlt⟩
   obtain ⟨b,off,rfl,hb,hcell⟩:=HCX.out (by intro e;rw [e] at hs;simp at hs)
   have hc:=hcell i s hs
   have hslt:s<4096:=HLT.out s (List.mem_of_getElem? hs)
   have hne:b≠w.heap.size:=by
    rintro rfl
    obtain ⟨D,⟨es,clock,hbk,-⟩,-⟩:=HM2.out
    rw [World.cell?,hbk] at hc
    simp at hc
   have hcx:wr.cell? ⟨b,off+i,none⟩=some (.int .u64 (s:Int)):=by
    rw [← hc];unfold World.cell?;rw [HG.out.block b hb (by intro e;cases e;exact hne rfl)]
   have HPI:Hid (placeW n k s=i):=HPL.out i s hs
   obtain ⟨D,hown,hmap,hat⟩:=HP.out
   have HAT:=Lib.hid hat;have HMP:=Lib.hid hmap
   have HS:=Lib.hid hs;have HSL:=Lib.hid hslt
   clear hs hcell hc hne hat hmap HP hslt hb
   go_wp2_with (first
    | (at_mapUpdate;refine wpList_mapUpdate_own _ rfl _ _ _ 96 rfl 100 3 lawU Tryz.underlying96 _ w.heap.size i _ rfl hown (by unfold maxLen;omega) _ _ _ rfl rfl (keyU HSL.out) _ [] (plainElem_int Tryz.underlying3 (WalkArith.wf_i64 (by omega))) ?_;intro w5 hown5 hgrow5)
    | fail)
   have HE5:Hid (Ext w w5):=Below.grown HX.out hgrow5 (Nat.le_of_lt (by have:=HG.out.size;have:=HS2.out;omega)) (fun j hj=>by cases hj;exact Nat.le_refl _)
   have HG5:Hid (w2.grownBy w5 (some w.heap.size)):=grown_trans HG.out hgrow5
   have HP5:Hid (PlacesIn w5 w.heap.size (i+1) n k (L.take (i+1))):=by
    refine ⟨_,hown5,isMap_put HMP.out _ _,fun x hx=>?_⟩
    by_cases hxs:x=s
    ·subst hxs
     rw [atKey_put_same HMP.out (by exact trivial),HPI.out]
    ·rw [atKey_put_other (fun e=>hxs (by injection e with _ e;exact Int.ofNat.inj e))]
     refine HAT.out x ?_
     rw [List.take_add_one,HS.out] at hx
     simpa [hxs] using hx
   clear hown5 hgrow5
   go_roundw
   case rel=>exact ⟨i+1,by omega,by go_num,HE5.out,HG5.out,HP5.out⟩
   case measure=>simp [intOf];omega
  ·obtain rfl:i=N:=by omega
   have HP9:Hid (PlacesIn wr w.heap.size i n k (allW n k)):=by
    have:=HP.out
    rw [← HNN.out,List.take_length,← HLL.out] at this
    rw [← HNN.out,← HLL.out];exact this
   clear HP
   go_wp2_with fail
   go_ret
   exact ⟨_,rfl,HX.out,_,_,rfl,HP9.out⟩
end Go.Proofs.YtjlkkofmojgipaaGreatDoor
namespace Go.Proofs.YtjlkkofmojgipaaGreatDoor
set_option linter.unusedVariables false
set_option linter.unusedSimpArgs false
open Go.RowKit
end Go.Proofs.YtjlkkofmojgipaaGreatDoor
