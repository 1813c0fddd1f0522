/-
 The documents' vectors: a times one, and another one (Axpy).
-/
import Derived.Test.YtokfaggcojokgaaGreatVrfZ
import Derived.Test.YtokfaggcojokgaaGreatVfcZ
import Derived.Laws.MakeOwn
import Derived.Test.YtokfaggcojokgaaGreatComZ
namespace Go.Proofs.YtokfaggcojokgaaGreat
set_option maxRecDepth 100000
set_option maxHeartbeats 1000000
open Go.RowKit
set_option linter.unusedVariables false
set_option linter.unusedSimpArgs false
theorem SLQ.ql{w:World}{u:Value}{l:List RE}(h:SLQ w u l)(k:Nat)(hk:1≤k)(hk2:k≤LIM)(hl:∀e∈l,e.2.1.length+e.2.2.length≤k):QL k w u (l.map ratE):=by
 obtain⟨ad,cap,h1,h2,h3,h4⟩:=h;refine⟨ad,cap,by rw[List.length_map];exact h1,by rw[List.length_map];exact h2,h3,?_⟩
 rcases h4 with h4 |⟨g,off,h4,h5⟩
 ·exact .inl (by rw[h4];rfl)
 ·refine .inr ⟨g,off,h4,fun i x hi=> ?_⟩;rw[List.getElem?_map]at hi
  cases he:l[i]? with
  |none=>rw [he]at hi;cases hi
  |some e=>
   rw[he]at hi;simp only[Option.map_some,Option.some.injEq]at hi;subst hi;obtain⟨cs,k1,k2,k4⟩:=h5 i e he
   have:=hl e (List.mem_of_getElem? he)
   exact⟨cs,k1,k2,k4.1.isR k4.2.1 k4.2.2.1 k (by omega) (by omega) hk hk2⟩
theorem SLQ.dig{w:World}{u:Value}{l:List RE}(h:SLQ w u l):∀e∈l,Dig W e.2.1∧Dig W e.2.2∧e.2.1.length+e.2.2.length≤9223372036854775807:=by
 intro e he;obtain⟨i,hi,rfl⟩:=List.getElem_of_mem he;obtain⟨ad,m,cap, -, -, -,hat⟩:=h.at;obtain⟨g,off, -,b,a1,n1,c1,a2,n2,c2, -, -,hR⟩:=hat i _ (List.getElem?_eq_getElem hi);exact(hR w (Ext.refl w)).2.2.2.2
set_option maxHeartbeats 4000000 in
theorem greatAll_calls(v:Value)(l:List RE)(w:World)(hv:SLQ w v l):
  Calls Tryz.prog 17 #[v] w fun e w'=>e= .returned (.bool (greatE l))∧Ext w w':=by
 obtain⟨ad,n,cap,hnl,rfl,hn1,hat⟩:=hv.at;have HV:=Lib.hid hv;have HN:=Lib.hid hnl;have HAT:=Lib.hid hat;clear hnl hat hv
 go_enter Tryz.func17,Tryz.ntmps17
 go_wp2_with fail
 go_loopw [3] (fun s wr=>∃i:Nat,i≤n∧s= .int .i64 (i:Int)∧Hid (∀e∈l.take i,wordsE e≤6)∧Ext w wr) (fun s _=>((n:Int) - intOf s).toNat)
 case atStart=>exact ⟨0,Nat.zero_le _,rfl,Lib.hid (fun e he=>by simp at he),Ext.refl _⟩
 case round=>
  obtain⟨i,hi,rfl,hS,hE0⟩:=hrel
  rcases Nat.eq_or_lt_of_le hi with hin |hin
  ·subst hin
   have hlt:¬((i:Int)<(i:Int)):=by omega
   have hall:∀e∈l,wordsE e≤6:=by have:=hS.out;rwa [HN.out,List.take_length]at this
   have hG:greatE l=(decide (30<i) || decide (18<weightE l)):=by
    rw[greatE_rest hall,←HN.out]
   have HG:=Lib.hid hG;have HALL:=Lib.hid hall;clear hG hall
   by_cases h30:30<i
   ·have h30':(30:Int)<(i:Int):=by omega
    have HR:Hid (greatE l=true):=Lib.hid (by rw[HG.out,decide_eq_true h30];rfl)
    go_wp2;go_ret
    exact⟨by rw[HR.out]<;>rfl,hE0⟩
   ·have h30':¬(30:Int)<(i:Int):=by omega
    have HR:Hid (greatE l=decide (18<weightE l)):=Lib.hid (by rw[HG.out,decide_eq_false h30];rfl)
    go_wp2_with fail;refine(weight_calls _ l wr (HV.out.ext hE0) (by rw[←HN.out];omega) HALL.out).mono ?_;rintro e w2 ⟨rfl,e2⟩;obtain⟨p,hp⟩:∃p,p=weightE l:=⟨_,rfl⟩;rw[←hp]at HR ⊢;clear hp
    by_cases h18:18<p
    ·have h18':(18:Int)<(p:Int):=by omega
     have HR2:Hid (greatE l=true):=Lib.hid (by rw[HR.out,decide_eq_true h18])
     go_wp2;go_ret
     exact⟨by rw[HR2.out]<;>rfl,hE0.trans e2⟩
    ·have h18':¬(18:Int)<(p:Int):=by omega
     have hd18:decide ((18:Int)<(p:Int))=false:=decide_eq_false h18'
     have HR2:Hid (greatE l=false):=Lib.hid (by rw[HR.out,decide_eq_false h18])
     go_wp2;go_ret
     exact⟨by rw[HR2.out]<;>rfl,hE0.trans e2⟩
  ·have hlt:(i:Int)<(n:Int):=by omega
   obtain⟨⟨xb,xs,xt⟩,hx⟩:∃x,l[i]? =some x:=⟨_,List.getElem?_eq_getElem (by rw[←HN.out];exact hin)⟩;obtain⟨g,off,rfl,b,a1,n1,c1,a2,n2,c2, -, -,hcell⟩:=HAT.out i _ hx;obtain⟨hc0,hc1,hc2,hR⟩:=hcell wr hE0;have HRX:=Lib.hid hR;have HX:=Lib.hid hx;obtain⟨p,hp⟩:∃p,p=xs.length+xt.length:=⟨_,rfl⟩;have HP:=Lib.hid hp;obtain⟨i1,hi1⟩:∃i1,i1=i+1:=⟨_,rfl⟩
   have hi1':(i:Int)+1=(i1:Int):=by omega
   have hi1n:i1≤n:=by omega
   have HI1:=Lib.hid hi1;clear hcell hx hR hp hi1;go_wp2_with fail;refine(rqwords3_calls _ xb xs xt wr HRX.out.1 HRX.out.2.2.2).mono ?_;rintro e w2 ⟨rfl,e2⟩;rw[←HP.out]
   by_cases h6:6<p
   ·have h6':(6:Int)<(p:Int):=by omega
    have HR:Hid (greatE l=true):=Lib.hid (greatE_words (i:=i) (e:=(xb,xs,xt)) HX.out (by show 6<xs.length+xt.length;rw[←HP.out];exact h6))
    go_wp2;go_ret
    exact⟨by rw[HR.out]<;>rfl,hE0.trans e2⟩
   ·have h6':¬(6:Int)<(p:Int):=by omega
    have hs:∀e∈l.take i1,wordsE e≤6:=by
     rw[HI1.out,List.take_add_one,HX.out];intro e he
     rcases List.mem_append.1 he with he |he
     ·exact hS.out e he
     ·simp only[Option.toList_some,List.mem_singleton]at he;subst he
      show xs.length+xt.length≤6
      rw[←HP.out]
      omega
    have HS:=Lib.hid hs;clear hs;go_wp2;go_roundw
    case rel=>exact ⟨i1,hi1n,rfl,HS,hE0.trans e2⟩
    case measure=>have:=HI1.out;simp[intOf];omega
theorem emptyQ(w:World):(Instr.buildSlice 23 0 #[]).run Tryz.prog w= .ok (.slice (some ⟨w.heap.size,0,none⟩) 0 0) (w.alloc (.cells #[] 34)):=by kernel_rfl
def FrE(B:Nat)(w:World)(v:Value)(e:RE):Prop:=FrR B w v e.1 e.2.1 e.2.2
theorem FrE.grow{B:Nat}{w w':World}{v:Value}{e:RE}{lv:Value}{vs:List Value}(h:FrE B w v e)(hls:LS 34 3 B w lv vs)(hg:w.grownBy w' lv.ownBlock):FrE B w' v e:=by
 rcases hls.2.2 with⟨h1,h2⟩ |⟨g',cap',cur,h1,h2,h3,h4⟩
 ·rw[h1]at hg;exact FrR.ext h hg
 ·rw[h1]at hg;exact FrR.chgB h hg h3 (by decide)
set_option maxHeartbeats 4000000 in
theorem copyAll_calls(v:Value)(l:List RE)(w:World)(hv:SLQ w v l)(hn:l.length≤1000)(hl:∀e∈l,wordsE e≤6):
  Calls Tryz.prog 19 #[v] w fun e w'=>∃v',e= .returned v'∧SLQ w' v' l∧Ext w w':=by
 have HD:=Lib.hid hv.dig;obtain⟨ad,n,cap,hnl,rfl,hn1,hat⟩:=hv.at;rw[←hnl]at hn;have HN:=Lib.hid hnl;have HAT:=Lib.hid hat;have HW:=Lib.hid hl;have eb:=emptyQ;clear hnl hat hv hl
 go_enter Tryz.func19,Tryz.ntmps19
 go_wp2_with fail
 go_loopw [3,4] (fun s3 s4 wr=>∃(i:Nat) (ado:Option Addr) (capo:Nat),i≤n∧s4= .int .i64 (i:Int)∧s3= .slice ado i capo∧Hid (OL 34 3 w.heap.size (FrE w.heap.size) wr (.slice ado i capo) (l.take i))∧Ext w wr) (fun _ s4 _=>((n:Int) - intOf s4).toNat)
 case atStart=>exact ⟨0,some ⟨w.heap.size,0,none⟩,0,Nat.zero_le _,rfl,rfl,Lib.hid ⟨[],LS.empty _ _ _ _ (Nat.le_refl _),rfl,fun i u y h=>by simp at h⟩,(Ext.refl _).alloc _⟩
 case round=>
  obtain⟨i,ado,capo,hi,rfl,rfl,hS,hE0⟩:=hrel
  rcases Nat.eq_or_lt_of_le hi with hin |hin
  ·subst hin
   have hlt:¬((i:Int)<(i:Int)):=by omega
   have hT:SLQ wr (.slice ado i capo) l:=by
    have:=hS.out
    rw[show l.take i=l by rw[HN.out,List.take_length]]at this;obtain⟨vs,h1,h2,h3⟩:=this;exact OL.sl (t:=34) (B:=w.heap.size) ⟨vs,h1,h2,fun j u y hu hy=>⟨(h3 j u y hu hy).raw,HD.out y (List.mem_of_getElem? hy)⟩⟩ (by omega)
   have HT:=Lib.hid hT;clear hT;go_wp2;go_ret;exact⟨_,rfl,HT.out,hE0⟩
  ·have hlt:(i:Int)<(n:Int):=by omega
   obtain⟨⟨xb,xs,xt⟩,hx⟩:∃x,l[i]? =some x:=⟨_,List.getElem?_eq_getElem (by rw[←HN.out];exact hin)⟩;obtain⟨g,off,rfl,b,a1,n1,c1,a2,n2,c2, -, -,hcell⟩:=HAT.out i _ hx;obtain⟨hc0,hc1,hc2,hR⟩:=hcell wr hE0;obtain⟨vs,hls,hvl,hvs⟩:=hS.out
   have hvi:vs.length=i:=by rw[hvl,List.length_take,←HN.out];omega
   have htk:=take_next hx;have hw6:xs.length+xt.length≤6:=HW.out _ (List.mem_of_getElem? hx);subst hvi;have HTK:=Lib.hid htk;have HLS:=Lib.hid hls;have HV:=Lib.hid (And.intro hvl hvs);have HRX:=Lib.hid hR;have hwr:=hE0.size;clear hcell hx hls hvl hvs htk hR hS;go_wp2_with fail;refine(rqcopy3_calls _ xb xs xt wr HRX.out.1 (by omega) (by omega)).mono ?_;rintro e w6 ⟨v6,rfl,r6,e6⟩;obtain⟨a6,l6,k6,a6',l6',k6',rfl,r6⟩:=r6.opn;have HR6:=Lib.hid (show FrE w.heap.size w6 _ (xb,xs,xt)from r6.mono hwr);have hs6:=e6.size;clear r6 hc0 hc1 hc2
   go_wp2_with (first
    | (at_builtin;go_loud (refine wpList_append_LS rfl _ _ 23 rfl 34 3 56 w.heap.size Tryz.underlying23 (by kernel_rfl) (by kernel_rfl) (by omega) _ vs rfl (HLS.out.ext (e6.trans ((Ext.refl _).alloc _))) ⟨w6.heap.size,0,none⟩ #[.bool xb,.slice a6 l6 k6,.slice a6' l6' k6'] rfl rfl (news_new _ _ _) (by kernel_rfl) (by omega) (by omega) (by rw[alloc_size];omega) ?_);intro g' cap2' w7 hls7 hg7 hwh7 hlt7)
    |fail)
   go_roundw
   case rel=>
    have hA:=(Ext.refl w6).alloc (.cells #[.bool xb,.slice a6 l6 k6,.slice a6' l6' k6'] 34);refine⟨vs.length+1,some ⟨g',0,none⟩,cap2',by omega,by simp,rfl,Lib.hid ?_,((hE0.trans e6).trans hA).stepG hg7 HLS.out.ge⟩;rw[HTK.out];have hLA:=HLS.out.ext (e6.trans hA);exact OL.app (w:=w6.alloc (.cells #[.bool xb,.slice a6 l6 k6,.slice a6' l6' k6'] 34)) HV.out.1 (fun i u y h1 h2=>FrR.ext (HV.out.2 i u y h1 h2) (e6.trans hA)) hls7 (fun u y h=>FrE.grow h hLA hg7) (FrE.grow (FrR.ext HR6.out hA) hLA hg7)
   case measure=>simp [intOf];omega
theorem dotS_snoc(f:Int→Rat)(ys:List Rat)(y:Rat):∀c,dotS f (ys++ [y]) c=dotS f ys c+f (c+(ys.length:Int))*y:=by
 induction ys with
 |nil=>intro c;simp[dotS,Rat.zero_add,Rat.add_zero]
 |cons x ys ih=>
  intro c;rw[List.cons_append];simp only[dotS,ih];rw[List.length_cons,Rat.add_assoc,show c+1+(ys.length:Int)=c+((ys.length+1:Nat):Int)by omega]
set_option maxHeartbeats 4000000 in
theorem dot5_calls(k:Nat)(v u:Value)(l:List (Int×Rat))(xs:List Rat)(w:World)(hl:TL k w v l)(hx:QL k w u xs)(hk:k≤1000)(hn:l.length≤1000)(hnx:xs.length≤1000):
  Calls Tryz.prog 54 #[v,u] w fun e w'=>∃v',e= .returned v'∧FrQd w.heap.size w' v' (dotV l xs)∧szD (dotV l xs)≤68719476736∧Ext w w':=by
 obtain⟨ad,n,cap,hnl,rfl,hn1,hat⟩:=hx.at;rw[←hnl]at hnx;have HN:=Lib.hid hnl;have HAT:=Lib.hid hat;have HL:=Lib.hid hl;have HNL:=Lib.hid hn;obtain⟨G,hG⟩:∃G,G=l.length*(5*k+1)+1:=⟨_,rfl⟩
 have hGb:G≤5001001:=by
  have:l.length*(5*k+1)≤1000*5001:=Nat.mul_le_mul (by omega) (by omega)
  omega
 have HG:=Lib.hid hG;obtain⟨C,hC1,hC2⟩:∃C:Nat,C≤5006002∧5006002≤C:=⟨5006002,Nat.le_refl _,Nat.le_refl _⟩;clear hnl hx hat hl hn hG
 obtain⟨q,hq⟩:∃q:Nat→Rat,q=fun i=>dotS (getV l) (xs.take i) 0:=⟨_,rfl⟩
 have hq0:q 0=0:=by rw[hq];rfl
 have hqn:q n=dotV l xs:=by rw[hq,dotV_sum];simp only;rw[HN.out,List.take_length]
 have hqs:∀(i:Nat) (x:Rat),xs[i]? =some x→q (i+1)=q i+getV l (i:Int)*x:=fun i x hi=>by
  rw[hq]
  simp only
  rw[take_next hi,dotS_snoc,Int.zero_add,List.length_take,Nat.min_eq_left (Nat.le_of_lt (List.getElem?_eq_some_iff.1 hi).1)]
 have HQ0:=Lib.hid hq0;have HQN:=Lib.hid hqn;have HQS:=Lib.hid hqs;clear hq hq0 hqn hqs;rw[←HQN.out]
 go_enter Tryz.func54,Tryz.ntmps54
 obtain⟨w1,hw1,e1,b1,s1⟩:=alloc1 w #[.bool false,.slice none 0 0,.slice none 0 0] 81;go_wp2_with fail;rw[←hw1];refine(rqsmall3_calls 0 _ (by omega) (by omega)).mono ?_;rintro e w2 ⟨v2,rfl,q2,e2⟩;obtain⟨b,ad2,l2,cap2,bd,m2,dap,rfl,q2⟩:=q2.opn;have Hq2:=Lib.hid q2;obtain⟨w3,hw3,e3,b3,s3⟩:=alloc1 w2 #[.bool b,.slice ad2 l2 cap2,.slice bd m2 dap] 81;clear q2;go_wp2_with fail;rw[←hw3];have HJ:DtJ w w3 w2.heap.size (0*C+1) (q 0):=⟨(e1.trans e2).trans e3,_,_,_,_,_,_,_,b3,by rw[HQ0.out];exact(Hq2.out.ext e3).mono e1.size,by rw[HQ0.out];have:szD 0≤1:=(by decide);rw[Nat.zero_mul];exact this⟩;have HJ0:=Lib.hid HJ
 have hs2:w.heap.size<w2.heap.size:=by have:=e1.size;have:=e2.size;have:=b1.lt;have:=s1;omega
 obtain⟨g5,hg5⟩:∃g5,g5=w2.heap.size:=⟨_,rfl⟩;rw[←hg5]at HJ0 hs2 ⊢;have B1:Bx 81 w3 w.heap.size #[.bool false,.slice none 0 0,.slice none 0 0]:=(b1.ext e2).ext e3;clear HJ hw1 hw3 hg5 Hq2
 go_loopw [6] (fun s6 wr=>∃i:Nat,i≤n∧s6= .int .i64 (i:Int)∧Hid (DtJ w wr g5 (i*C+1) (q i)∧Bx 81 wr w.heap.size #[.bool false,.slice none 0 0,.slice none 0 0])) (fun s6 _=>((n:Int) - intOf s6).toNat)
 case atStart=>exact ⟨0,Nat.zero_le _,rfl,Lib.hid ⟨HJ0.out,B1⟩⟩
 case round=>
  obtain⟨i,hi,rfl,hH⟩:=hrel;obtain⟨⟨hE0,rb,r1,m1,d1,r2,m2',d2,hbx,hq,hsz⟩,hB0⟩:=hH.out;have HQ:=Lib.hid hq;have HSZ:=Lib.hid hsz;clear hq hsz hH HJ0 B1 b1 b3 e1 e2 e3 s1 s3
  rcases Nat.eq_or_lt_of_le hi with hin |hin
  ·subst hin
   have hlt:¬((i:Int)<(i:Int)):=by omega
   have hcx0:=hbx.cell 0;have hcx1:=hbx.cell 1;have hcx2:=hbx.cell 2;have hb:=hB0;have hc0:=hb.cell 0;have hc1:=hb.cell 1;have hc2:=hb.cell 2;have hf0:=hb.free 0;have hf1:=hb.free 1;have hf2:=hb.free 2;clear hbx;have hszw:=hE0.size;go_wp2;refine ret_box 4 81 w.heap.size 81 _ _ (by kernel_rfl) rfl (((hb.set 0 _).set 1 _).set 2 _) Tryz.underlying81 rfl (by kernel_rfl) rfl ?_;exact⟨_,rfl,HQ.out.chgN (Chg.trans (Chg.trans (Chg.setCell _ w.heap.size 0 _) (Chg.setCell _ w.heap.size 1 _)) (Chg.setCell _ w.heap.size 2 _)) hB0 (((hb.set 0 _).set 1 _).set 2 _) (by decide) (by decide),by have:=HSZ.out;have h3:i*C≤1000*5006002:=Nat.mul_le_mul (by omega) hC1;omega,hE0.step (Chg.trans (Chg.trans (Chg.setCell _ w.heap.size 0 _) (Chg.setCell _ w.heap.size 1 _)) (Chg.setCell _ w.heap.size 2 _)) (by omega)⟩
  ·have hlt:(i:Int)<(n:Int):=by omega
   obtain⟨x,hx⟩:∃x,xs[i]? =some x:=⟨_,List.getElem?_eq_getElem (by rw[←HN.out];exact hin)⟩;obtain⟨g,off,rfl,b',a1,n1,c1,a2,n2,c2,hcell,hR⟩:=HAT.out i x hx;have HC:=Lib.hid hcell
   have hmul:i*C+C=(i+1)*C:=(Nat.succ_mul i C).symm
   have hic:i*C≤1000*5006002:=Nat.mul_le_mul (by omega) hC1;have HX:=Lib.hid hR;have HQS1:=Lib.hid (HQS.out i x hx);obtain⟨y,hy⟩:∃y,y=getV l (i:Int):=⟨_,rfl⟩;rw[←hy]at HQS1;have HY:=Lib.hid hy;clear hx hR hcell hy;go_wp2_with fail;have h5g:g5<wr.heap.size:=hbx.lt;refine wpP [⟨11,g5,81,PP.frQdS (q i+y*x) ((i+1)*C+1)⟩] [PP.val (.agg #[.bool rb,.slice r1 m1 d1,.slice r2 m2' d2]),PP.val (v),PP.val (.int .i64 (i:Int)),PP.frQdS y G,PP.val (.slice (some ⟨g,off,none⟩) n cap),PP.val (.int .i64 (i:Int)),PP.val (.pointer (some ⟨g,off+i*3,none⟩)),PP.val (.agg #[.bool b',.slice a1 n1 c1,.slice a2 n2 c2]),PP.frQd x,PP.frQdS (y*x) (G+5*k),PP.frQdS (q i+y*x) ((i+1)*C+1),PP.any] [] [11,10,9,8,7,6,5,4,3,2,1,0] ?_ ?_ ?_ ?_ ?_
   ·intro x hx;simp only[List.mem_singleton]at hx;subst hx;exact⟨by show g5<wr.heap.size;omega,rfl⟩
   ·intro x hx;simp only[List.mem_singleton]at hx;subst hx;rfl
   ·intro x hx y hy h;simp only[List.mem_singleton]at hx hy;subst hx hy;exact absurd rfl h
   ·refine⟨?_,?_,?_,?_,?_,?_,?_,?_,?_,?_,?_,?_,trivial⟩
    ·intro f w6 hG hp hl;have hE:Ext wr w6:=hG;change OpGoal _ _ _ f w6 Ext _;exact og_load (P:=Tryz.prog) _ _ g5 _ _ _ rfl rfl rfl (hbx.ext hE) Tryz.underlying81 rfl (by kernel_rfl) rfl
    ·intro f w6 hG hp hl;simp only[OpGoal];go_simp;exact⟨_,rfl,Ext.refl _,rfl⟩
    ·intro f w6 hG hp hl;simp only[OpGoal];go_simp;exact⟨_,rfl,Ext.refl _,rfl⟩
    ·intro f w6 hG hp hl;have hE:Ext wr w6:=hG;have hS:=hE.size;have q15:=tE hp 0 1 rfl rfl rfl;have q16:=tE hp 1 2 rfl rfl rfl;change OpGoal _ _ _ f w6 Ext _;refine oC #[f 1,f 2] Tryz.func120 rfl rfl ?_;rw[q15,q16];refine(get5_calls k _ (i:Int) l _ (HL.out.ext (hE0.trans hE)) (by omega) (by have:=HNL.out;omega)).mono ?_;rw[←HY.out,←HG.out];rintro e w' ⟨v',rfl,h1,h3,h2⟩;exact⟨v',rfl,h2,h1.mono hS,h3⟩
    ·intro f w6 hG hp hl;simp only[OpGoal];go_simp;exact⟨_,rfl,Ext.refl _,rfl⟩
    ·intro f w6 hG hp hl;simp only[OpGoal];go_simp;exact⟨_,rfl,Ext.refl _,rfl⟩
    ·intro f w6 hG hp hl;have q18:=tE hp 0 4 rfl rfl rfl;have q19:=tE hp 1 5 rfl rfl rfl;simp only[OpGoal];go_simp;exact⟨_,rfl,Ext.refl _,rfl⟩
    ·intro f w6 hG hp hl;have hE:Ext wr w6:=hG;have q20:=tE hp 0 6 rfl rfl rfl;change OpGoal _ _ _ f w6 Ext _;exact og_loadAt (P:=Tryz.prog) _ _ g (off+i*3) _ _ rfl rfl q20 (fun j v h=>HC.out _ (hE0.trans hE) j v h) Tryz.underlying34 rfl (by kernel_rfl) rfl
    ·intro f w6 hG hp hl;have hE:Ext wr w6:=hG;have hS:=hE.size;have q21:=tE hp 0 7 rfl rfl rfl;change OpGoal _ _ _ f w6 Ext _;refine oC #[f 7] Tryz.func55 rfl rfl ?_;rw[q21];refine(rqofR_calls _ x k _ (HX.out.ext (hE0.trans hE)) (by omega)).mono ?_;rintro e w' ⟨v',rfl,h1,h2⟩;exact⟨v',rfl,h2,h1.mono hS⟩
    ·intro f w6 hG hp hl;have hE:Ext wr w6:=hG;have hS:=hE.size;have q17:=tellV hp 0 3 rfl rfl (fun _=>hE);have q22:=tellV hp 1 8 rfl rfl (fun _=>hE);change OpGoal _ _ _ f w6 Ext _;refine oC #[f 3,f 8] Tryz.func63 rfl rfl ?_;refine(rqmul3_calls _ _ y x G (5*k) _ q17.1.cq q22.cq q17.2 (szD_of HX.out.sz) (by omega)).mono ?_;rintro e w' ⟨v',rfl,h1,h3,h2⟩;exact⟨v',rfl,h2,h1.mono hS,h3⟩
    ·intro f w6 hG hp hl;have hE:Ext wr w6:=hG;have hS:=hE.size;have q14:=tE hp 0 0 rfl rfl rfl;have q23:=tellV hp 1 9 rfl rfl (fun _=>hE);change OpGoal _ _ _ f w6 Ext _;refine oC #[f 0,f 9] Tryz.func61 rfl rfl ?_;rw[q14];refine(rqadd3_calls _ _ (q i) (y*x) (i*C+1) (G+5*k) _ (HQ.out.ext hE).cq q23.1.cq HSZ.out q23.2 (by omega)).mono ?_;rintro e w' ⟨v',rfl,h1,h3,h2⟩;exact⟨v',rfl,h2,h1.mono hS,by omega⟩
    ·intro f w6 hG hp hl;have hE:Ext wr w6:=hG;have hS:=hE.size;have q24:=tellV hp 0 10 rfl rfl (fun _=>hE);intro hg0;change OpGoal _ _ _ f w6 (Chg _) _;obtain⟨⟨s',t',hv,hn,hm⟩,hsz⟩:=q24;exact og_store (P:=Tryz.prog) _ _ _ g5 _ _ _ (PP.frQdS _ _:PP _).p rfl rfl rfl hv (show Bx 81 w6 _ _ from hg0.trans hbx) (by kernel_rfl) rfl (all3 rfl hn.oneCell hm.oneCell) (fun w' h=>⟨⟨s',t',rfl,hn.chg h (by omega),hm.chg h (by omega)⟩,hsz⟩)
   ·intro f w6 hG hp;obtain⟨cs0,hbx0,hz0⟩:∃cs,Bx 81 w6 g5 cs∧(PP.frQdS (q i+y*x) ((i+1)*C+1):PP wr.heap.size).p (.agg cs) w6:=endS hp 11 (by decide);clear hp;obtain⟨hz1,hz2⟩:=hz0;obtain⟨b6,a6,l6,cap6,a7,l7,cap7,hvv,hz1⟩:=hz1.opn
    cases hvv
    have Hq6:=Lib.hid hz1;have Z6:=Lib.hid hz2;have hsz6:=hE0.size;have E6:Ext w w6:=hE0.stepS hG (by simp;omega);have B06:Bx 81 w6 w.heap.size #[.bool false,.slice none 0 0,.slice none 0 0]:=hB0.chgS hG (by simp;omega);clear hz1 hz2;go_wp2;go_roundw
    case rel=>
     refine⟨i+1,by omega,congrArg (Value.int .i64) (by omega),Lib.hid ⟨⟨E6,_,_,_,_,_,_,_,hbx0,?_,?_⟩,B06⟩⟩
     ·rw[HQS1.out];exact Hq6.out.mono hsz6
     ·rw[HQS1.out];exact Z6.out
    case measure=>simp [intOf];omega
def HurtP(Q:Nat→Prop)(w w':World):Prop:=w'.os=w.os∧w'.tape=w.tape∧w'.output=w.output∧w.heap.size≤w'.heap.size∧
 ∀k,k<w.heap.size→w'.heap[k]? =w.heap[k]? ∨(Q k∧∃cur cur',w.heap[k]? =some (.cells cur 172 (0,0))∧w'.heap[k]? =some (.cells cur' 172 (0,0))∧cur'.size=cur.size)
theorem HurtP.trans{Q:Nat→Prop}{a b c:World}(h:HurtP Q a b)(k:HurtP Q b c):HurtP Q a c:=by
 obtain⟨h1,h2,h3,h4,h5⟩:=h;obtain⟨k1,k2,k3,k4,k5⟩:=k;refine⟨k1.trans h1,k2.trans h2,k3.trans h3,Nat.le_trans h4 k4,fun g hg=> ?_⟩
 rcases h5 g hg with e1 |⟨hb,cur,cur',c1,c2,c3⟩<;>rcases k5 g (by omega)with e2 |⟨hb2,dur,dur',d1,d2,d3⟩
 ·exact .inl (e2.trans e1)
 ·exact .inr ⟨hb2,dur,dur',e1▸d1,d2,d3⟩
 ·exact .inr ⟨hb,cur,cur',c1,e2.trans c2,c3⟩
 ·refine .inr ⟨hb,cur,dur',c1,d2,?_⟩;rw[c2]at d1
  cases d1
  omega
theorem Ext.hurtsP{w w':World}(Q:Nat→Prop)(h:Ext w w'):HurtP Q w w':=⟨World.grownBy.os h,World.grownBy.tape h,World.grownBy.output h,h.size,fun k hk=> .inl (h.heap hk)⟩
theorem Bx.hurtP{Q:Nat→Prop}{t:TypeId}{w w':World}{g:Nat}{cs:Array Value}(h:Bx t w g cs)(he:HurtP Q w w')(ht:t≠172):Bx t w' g cs:=by
 rcases he.2.2.2.2 g (blk_lt h)with e1 |⟨-,cur,cur',c1, -⟩
 ·exact e1.trans h
 ·unfold Bx at h;rw[h]at c1
  cases c1
  exact absurd rfl ht
theorem HurtP.setCell{Q:Nat→Prop}{g i:Nat}{w:World}{cur:Array Value}(h:w.heap[g]? =some (.cells cur 172 (0,0)))(hB:Q g)(u:Value):HurtP Q w (w.setCell ⟨g,i,none⟩ u):=by
 have hc:=Chg.setCell w g i u;refine⟨World.grownBy.os hc,World.grownBy.tape hc,World.grownBy.output hc,hc.size,fun k hk=> ?_⟩
 by_cases hkg:k=g
 ·subst hkg;exact .inr ⟨hB,cur,_,h,heap_setCell_same w k i _ _ _ h,by simp⟩
 ·exact .inl (hc.heap hk hkg)
def ShpP(Q:Nat→Prop)(w:World)(s:Value):Prop:=∃ad l cap,s= .slice ad l cap∧l≤9223372036854775807∧(l=0∨∃g cur,ad=some ⟨g,0,none⟩∧Q g∧w.heap[g]? =some (.cells cur 172 (0,0))∧l≤cur.size)
def ShpR(Q:Nat→Prop)(w:World)(v:Value):Prop:=∃b s t,v= .agg #[.bool b,s,t]∧ShpP Q w s∧ShpP Q w t
theorem ShpP.hurtP{Q Q1:Nat→Prop}{w w':World}{s:Value}(h:ShpP Q w s)(he:HurtP Q1 w w'):ShpP Q w' s:=by
 obtain⟨ad,l,cap,h1,h2,h3⟩:=h;refine⟨ad,l,cap,h1,h2,?_⟩
 rcases h3 with h3 |⟨g,cur,h3,h4,h5,h6⟩
 ·exact .inl h3
 ·rcases he.2.2.2.2 g (blk_lt h5)with e1 |⟨-,cu,cu',c1,c2,c3⟩
  ·exact .inr ⟨g,cur,h3,h4,e1.trans h5,h6⟩
  ·rw[h5]at c1
   cases c1
   exact .inr ⟨g,cu',h3,h4,c2,by omega⟩
theorem FrL.shpP{k:IntKind}{B0 B1:Nat}{w:World}{s:Value}{xs:List Nat}(h:FrL 172 k B0 w s xs)(hB:w.heap.size≤B1):ShpP (fun k=>B0≤k∧k<B1) w s:=by
 obtain⟨ad,cap,h1,h2,h3,h4⟩:=h;refine⟨ad,_,cap,h1,by omega,?_⟩
 rcases h4 with⟨h4, -⟩ |⟨g,cur,h4,h5,h6,h7, -⟩
 ·exact .inl (by rw[vals_nil.1 h4];rfl)
 ·exact .inr ⟨g,cur,h4,⟨h5,Nat.lt_of_lt_of_le (blk_lt h6) hB⟩,h6,by omega⟩
theorem FrQ.shpP{B0 B1:Nat}{w:World}{v:Value}{q:Rat}(h:FrQ B0 w v q)(hB:w.heap.size≤B1):ShpR (fun k=>B0≤k∧k<B1) w v:=by
 obtain⟨s,t,h1,h2,h3⟩:=h;exact⟨_,s,t,h1,FrL.shpP h2 hB,FrL.shpP h3 hB⟩
theorem spoilP_calls(v:Value)(Q:Nat→Prop)(w:World)(hv:ShpR Q w v):
  Calls Tryz.prog 88 #[v] w fun e w'=>e= .returned (.tuple #[])∧HurtP Q w w':=by
 obtain⟨b,s,t,rfl,hs,ht⟩:=hv;obtain⟨ad,l,cap,rfl,hl,hs1⟩:=hs;obtain⟨ad2,m,cap2,rfl,hm,ht1⟩:=ht
 go_enter Tryz.func88,Tryz.ntmps88
 obtain⟨w1,hw1,e1,b1,s1⟩:=alloc1 w #[.bool b,.slice ad l cap,.slice ad2 m cap2] 34;go_wp2_with fail;rw[←hw1];have H1:=e1.hurtsP Q
 go_loopw [2] (fun i wr=>∃k:Nat,k≤l∧i= .int .i64 (k:Int)∧HurtP Q w wr∧Bx 34 wr w.heap.size #[.bool b,.slice ad l cap,.slice ad2 m cap2]) (fun i _=>((l:Int) - intOf i).toNat)
 case atStart=>exact ⟨0,Nat.zero_le _,rfl,H1,b1⟩
 case round=>
  obtain⟨k,hk,rfl,hH,hB⟩:=hrel;have hc0:=hB.cell 0;have hc1:=hB.cell 1;have hc2:=hB.cell 2
  rcases Nat.eq_or_lt_of_le hk with hkl |hkl
  ·subst hkl;go_wp2_with fail;clear hc0 hc1 hc2
   go_loopw [3] (fun i wr=>∃j:Nat,j≤m∧i= .int .i64 (j:Int)∧HurtP Q w wr∧Bx 34 wr w.heap.size #[.bool b,.slice ad k cap,.slice ad2 m cap2]) (fun i _=>((m:Int) - intOf i).toNat)
   case atStart=>exact ⟨0,Nat.zero_le _,rfl,hH,hB⟩
   case round=>
    obtain⟨j,hj,rfl,hH2,hB2⟩:=hrel;have hc0:=hB2.cell 0;have hc1:=hB2.cell 1;have hc2:=hB2.cell 2
    rcases Nat.eq_or_lt_of_le hj with hjl |hjl
    ·subst hjl;go_wp2
     go_end0
     exact⟨rfl,hH2⟩
    ·have hsh:ShpP Q _ _:=ShpP.hurtP (s:= .slice ad2 m cap2) ⟨_,_,_,rfl,hm,ht1⟩ hH2;obtain⟨_,_,_,hsl, -,hsg⟩:=hsh
     cases hsl
     obtain⟨g,cur,rfl,hg,hh,hcs⟩:=hsg.resolve_left (by omega);have hcg:=cell_of_row _ g j cur _ _ hh;rw[Array.getElem?_eq_getElem (by omega)]at hcg;have hfg:=frozen_of_row _ g j _ _ hh;go_wp2;go_roundw
     case rel=>exact ⟨j+1,by omega,by simp,hH2.trans (HurtP.setCell hh hg _),hB2.hurtP (HurtP.setCell hh hg _) (by decide)⟩
     case measure=>simp [intOf];omega
  ·have hsh:ShpP Q _ _:=ShpP.hurtP (s:= .slice ad l cap) ⟨_,_,_,rfl,hl,hs1⟩ hH;obtain⟨_,_,_,hsl, -,hsg⟩:=hsh
   cases hsl
   obtain⟨g,cur,rfl,hg,hh,hcs⟩:=hsg.resolve_left (by omega);have hcg:=cell_of_row _ g k cur _ _ hh;rw[Array.getElem?_eq_getElem (by omega)]at hcg;have hfg:=frozen_of_row _ g k _ _ hh;go_wp2;go_roundw
   case rel=>exact ⟨k+1,by omega,by simp,hH.trans (HurtP.setCell hh hg _),hB.hurtP (HurtP.setCell hh hg _) (by decide)⟩
   case measure=>simp [intOf];omega
def sumN(f:Nat→Rat):Nat→Rat
 |0=>0
 |n+1=>sumN f n+f n
theorem sumN_zero:∀n,sumN (fun _=>0) n=0
 |0=>rfl
 |n+1=>by unfold sumN;rw[sumN_zero n,Rat.add_zero]
def catN(ys:List Rat)(rows:List (List (Int×Rat)))(i:Nat):List (Int×Rat):=(List.range i).flatMap fun j=>scV (ys.getD j 0) (rows.getD j [])
theorem catN_zero(ys:List Rat)(rows:List (List (Int×Rat))):catN ys rows 0=[]:=rfl
theorem catN_snoc{ys:List Rat}{rows:List (List (Int×Rat))}{i:Nat}{y:Rat}{r:List (Int×Rat)}(hy:ys[i]? =some y)(hr:rows[i]? =some r):catN ys rows (i+1)=catN ys rows i++scV y r:=by
 unfold catN;rw[List.range_succ,List.flatMap_append]
 simp[List.getD,hy,hr]
theorem getD_all{α:Type}{p:α→Prop}{l:List α}{d:α}(h:∀x∈l,p x)(hd:p d)(i:Nat):p (l.getD i d):=by
 rw[List.getD_eq_getElem?_getD]
 cases hi:l[i]? with
 |none=>exact hd
 |some x=>exact h x (List.mem_of_getElem? hi)
theorem catN_len{ys:List Rat}{rows:List (List (Int×Rat))}{N:Nat}(h:∀r∈rows,r.length≤N):∀i,(catN ys rows i).length≤i*N
 |0=>by simp[catN_zero]
 |i+1=>by
  have e:catN ys rows (i+1)=catN ys rows i++scV (ys.getD i 0) (rows.getD i []):=by
   unfold catN;rw[List.range_succ,List.flatMap_append]
   simp
  have h1:=catN_len (ys:=ys) h i;have h2:(rows.getD i []).length≤N:=getD_all (p:=fun(r:List (Int×Rat))=>r.length≤N) h (by simp) i;rw[e,List.length_append,Nat.succ_mul];unfold scV;rw[List.length_map]
  omega
theorem TLE.val{w:World}{v:Value}{l:List TE}(h:TLE w v l):∃ad n cap,v= .slice ad n cap:=by
 obtain⟨ad,m,cap,h1,h2, -⟩:=h.at;exact⟨ad,m,cap,h2⟩
theorem TO.val{B k:Nat}{w:World}{v:Value}{l:List (Int×Rat)}(h:TO B k w v l):∃ad cap,v= .slice ad l.length cap:=by
 obtain⟨ts,h1,h2, -⟩:=h;obtain⟨ad,cap,e, -⟩:=h2.opn;rw[List.length_map,h1]at e;exact⟨ad,cap,e⟩
theorem TO.to{B k k':Nat}{w:World}{v:Value}{m:List (Int×Rat)}(h:TO B k w v m)(hk:∀x∈m,szQ x.2≤k'):TO B k' w v m:=by
 obtain⟨ts,h1,h2,h3⟩:=h;exact⟨ts,h1,h2,fun i t x ht hx=>⟨(h3 i t x ht hx).1,(h3 i t x ht hx).2.1,hk x (List.mem_of_getElem? hx)⟩⟩
def ratT(l:List TE):List (Int×Rat):=l.map fun e=>(e.1,ratE e.2)
theorem TO.chgB{B k g:Nat}{w w':World}{v:Value}{m:List (Int×Rat)}{t:TypeId}{cs:Array Value}(h:TO B k w v m)(hc:Chg g w w')(hb:Bx t w g cs)(ht:t≠172)(ht2:t≠96):TO B k w' v m:=by
 obtain⟨ts,h1,h2,h3⟩:=h;exact⟨ts,h1,h2.chgT hc hb ht2,fun i t x a b=>⟨(h3 i t x a b).1,(h3 i t x a b).2.1.chgB hc hb ht,(h3 i t x a b).2.2⟩⟩
theorem Up.mem_get{l:List (Int×Rat)}(h:Up l):∀x∈l,getV l x.1=x.2:=by
 induction l with
 |nil=>intro x hx;cases hx
 |cons y l ih=>
  intro x hx;rw[h.getV_cons]
  rcases List.mem_cons.1 hx with rfl |hx
  ·rw[if_pos rfl]
  ·rw[if_neg (by have:=h.tail.2.2 x hx;omega)];exact ih h.tail.1 x hx
theorem sz_mk{k:Nat}{l:List (Int×Rat)}(h:∀x∈l,szQ x.2≤k):∀x∈mkV l,szQ x.2≤l.length*(k+1)+1:=by
 intro x hx;rw[←(mkV_nf l).1.mem_get x hx,mkV_get];exact sz_get h _
theorem sz_le{k A B:Nat}{l:List (Int×Rat)}(h:∀x∈l,szQ x.2≤k)(hl:l.length≤A)(hB:A*(k+1)+1≤B):∀x∈mkV l,szQ x.2≤B:=fun x hx=>by
 have h1:=sz_mk h x hx;have h2:l.length*(k+1)≤A*(k+1):=Nat.mul_le_mul_right _ hl
 omega
theorem scV_szs{ka k:Nat}{a:Rat}{l:List (Int×Rat)}(ha:szQ a≤ka)(hl:∀x∈l,szQ x.2≤k):∀x∈scV a l,szQ x.2≤ka+k:=by
 intro x hx;unfold scV at hx;obtain⟨y,hy,rfl⟩:=List.mem_map.1 hx;exact szQ_mul ha (hl y hy)
theorem catN_szs{ky k:Nat}{ys:List Rat}{rows:List (List (Int×Rat))}(hy:∀y∈ys,szQ y≤ky)(hr:∀r∈rows,∀x∈r,szQ x.2≤k){i:Nat}(h1:i≤ys.length)(h2:i≤rows.length):∀x∈catN ys rows i,szQ x.2≤ky+k:=by
 intro x hx;unfold catN at hx;obtain⟨j,hj,hx⟩:=List.mem_flatMap.1 hx;have hji:=List.mem_range.1 hj
 have e1:ys.getD j 0=ys[j]'(by omega):=by rw[List.getD_eq_getElem?_getD,List.getElem?_eq_getElem (by omega)];rfl
 have e2:rows.getD j []=rows[j]'(by omega):=by rw[List.getD_eq_getElem?_getD,List.getElem?_eq_getElem (by omega)];rfl
 rw[e1,e2]at hx;exact scV_szs (hy _ (List.getElem_mem _)) (hr _ (List.getElem_mem _)) x hx
theorem TO.nil0(B k:Nat)(w:World):TO B k w (.slice Option.none 0 0) []:=⟨[],rfl,LS.nil _ _ _ _,fun i t x h=>by simp at h⟩
theorem mk_more(l r:List (Int×Rat)):mkV (mkV l++r)=mkV (l++r):=mkV_congr fun c=>by rw[getV_append,getV_append,mkV_get]
def weightM:List (List TE)→Nat
 | []=>0
 |l::ms=>weightE (l.map Prod.snd)+weightM ms
def greatM(ms:List (List TE)):Bool:=ms.any greatV || (decide (12<ms.length) || decide (18<weightM ms))
theorem greatM_not{ms:List (List TE)}(h:greatM ms=false):ms.length≤12∧∀l∈ms,l.length≤30∧∀e∈l,wordsE e.2≤6:=by
 unfold greatM at h;simp only[Bool.or_eq_false_iff,List.any_eq_false,decide_eq_false_iff_not]at h;refine⟨by omega,fun l hl=> ?_⟩
 have h1:greatV l=false:=by simpa using h.1 l hl
 obtain⟨k1,k2⟩:=greatE_not h1;rw[List.length_map]at k1;exact⟨k1,fun e he=>k2 e.2 (List.mem_map_of_mem he)⟩
theorem weightE_le{l:List RE}(h:greatE l=false):weightE l≤18:=by
 unfold greatE at h;simp only[Bool.or_eq_false_iff,decide_eq_false_iff_not]at h
 omega
theorem TLO.val{B:Nat}{w:World}{v:Value}{l:List TE}(h:TLO B w v l):∃ad n cap,v= .slice ad n cap:=h.tle.val
theorem TLO.mono{B B':Nat}{w:World}{v:Value}{l:List TE}(h:TLO B w v l)(hB:B'≤B):TLO B' w v l:=by
 obtain⟨⟨ts,h1,h2,h3⟩,hd⟩:=h;exact⟨⟨ts,h1,h2.mono hB,fun j t e a b=>⟨(h3 j t e a b).1,(h3 j t e a b).2.mono hB⟩⟩,hd⟩
def HurtW(Q:Nat→Prop)(w w':World):Prop:=w'.os=w.os∧w'.tape=w.tape∧w'.output=w.output∧w.heap.size≤w'.heap.size∧
 ∀k,k<w.heap.size→w'.heap[k]? =w.heap[k]? ∨(Q k∧∃cur cur' t,(t=172∨(t=96∧∀x,x % 4≠0→cur'[x]? =cur[x]?))∧w.heap[k]? =some (.cells cur t (0,0))∧w'.heap[k]? =some (.cells cur' t (0,0))∧cur'.size=cur.size)
theorem HurtP.w{Q:Nat→Prop}{w w':World}(h:HurtP Q w w'):HurtW Q w w':=by
 obtain⟨h1,h2,h3,h4,h5⟩:=h;refine⟨h1,h2,h3,h4,fun k hk=> ?_⟩
 rcases h5 k hk with e |⟨hb,cur,cur',c1,c2,c3⟩
 ·exact .inl e
 ·exact .inr ⟨hb,cur,cur',_,.inl rfl,c1,c2,c3⟩
theorem HurtW.refl(Q:Nat→Prop)(w:World):HurtW Q w w:=⟨rfl,rfl,rfl,Nat.le_refl _,fun k hk=> .inl rfl⟩
theorem Ext.hurtsW{w w':World}(Q:Nat→Prop)(h:Ext w w'):HurtW Q w w':=⟨World.grownBy.os h,World.grownBy.tape h,World.grownBy.output h,h.size,fun k hk=> .inl (h.heap hk)⟩
theorem HurtW.trans{Q:Nat→Prop}{a b c:World}(h:HurtW Q a b)(k:HurtW Q b c):HurtW Q a c:=by
 obtain⟨h1,h2,h3,h4,h5⟩:=h;obtain⟨k1,k2,k3,k4,k5⟩:=k;refine⟨k1.trans h1,k2.trans h2,k3.trans h3,Nat.le_trans h4 k4,fun g hg=> ?_⟩
 rcases h5 g hg with e1 |⟨hb,cur,cur',t,ht,c1,c2,c3⟩<;>rcases k5 g (by omega)with e2 |⟨hb2,dur,dur',u,hu,d1,d2,d3⟩
 ·exact .inl (e2.trans e1)
 ·exact .inr ⟨hb2,dur,dur',u,hu,e1▸d1,d2,d3⟩
 ·exact .inr ⟨hb,cur,cur',t,ht,c1,e2.trans c2,c3⟩
 ·rw[c2]at d1
  cases d1
  refine .inr ⟨hb,cur,dur',t,?_,c1,d2,by omega⟩
  rcases ht with ht |⟨ht,hx⟩
  ·exact .inl ht
  ·rcases hu with hu |⟨hu,hy⟩
   ·exact .inl hu
   ·exact .inr ⟨ht,fun x hn=>(hy x hn).trans (hx x hn)⟩
theorem Ext.hurtW{Q:Nat→Prop}{a w w':World}(h:Ext a w)(k:HurtW Q w w')(hB:∀k,Q k→a.heap.size≤k):Ext a w':=by
 obtain⟨k1,k2,k3,k4,k5⟩:=k;refine⟨k1.trans (World.grownBy.os h),k2.trans (World.grownBy.tape h),k3.trans (World.grownBy.output h),Nat.le_trans h.size k4,fun g hg _=> ?_⟩
 have:=h.size
 rcases k5 g (by omega)with e1 |⟨hb, -⟩
 ·exact e1.trans (h.heap hg)
 ·have:=hB g hb;omega
theorem Bx.hurtW{Q:Nat→Prop}{t:TypeId}{w w':World}{g:Nat}{cs:Array Value}(h:Bx t w g cs)(he:HurtW Q w w')(ht:t≠172)(ht2:t≠96):Bx t w' g cs:=by
 rcases he.2.2.2.2 g (blk_lt h)with e1 |⟨-,cur,cur',u,hu,c1, -⟩
 ·exact e1.trans h
 ·unfold Bx at h;rw[h]at c1
  cases c1
  exact absurd (hu.imp_right And.left) (not_or.2 ⟨ht,ht2⟩)
theorem Bx.hurtTW{Q:Nat→Prop}{w w':World}{g:Nat}{cs:Array Value}(h:Bx 96 w g cs)(he:HurtW Q w w'):∃cs',Bx 96 w' g cs'∧cs'.size=cs.size∧∀x,x % 4≠0→cs'[x]? =cs[x]? :=by
 rcases he.2.2.2.2 g (blk_lt h)with e1 |⟨-,cur,cur',u,hu,c1,c2,c3⟩
 ·exact⟨cs,e1.trans h,rfl,fun x _=>rfl⟩
 ·unfold Bx at h;rw[h]at c1
  cases c1
  rcases hu with hu |⟨-,hu⟩
  ·exact absurd hu (by decide)
  ·exact⟨cur',c2,c3,hu⟩
theorem ShpP.hurtW{Q Q1:Nat→Prop}{w w':World}{s:Value}(h:ShpP Q w s)(he:HurtW Q1 w w'):ShpP Q w' s:=by
 obtain⟨ad,l,cap,h1,h2,h3⟩:=h;refine⟨ad,l,cap,h1,h2,?_⟩
 rcases h3 with h3 |⟨g,cur,h3,h4,h5,h6⟩
 ·exact .inl h3
 ·rcases he.2.2.2.2 g (blk_lt h5)with e1 |⟨-,cu,cu',u,hu,c1,c2,c3⟩
  ·exact .inr ⟨g,cur,h3,h4,e1.trans h5,h6⟩
  ·rw[h5]at c1
   cases c1
   exact .inr ⟨g,cu',h3,h4,c2,by omega⟩
theorem ShpR.hurtW{Q Q1:Nat→Prop}{w w':World}{v:Value}(h:ShpR Q w v)(he:HurtW Q1 w w'):ShpR Q w' v:=by
 obtain⟨b,s,t,h1,h2,h3⟩:=h;exact⟨b,s,t,h1,h2.hurtW he,h3.hurtW he⟩
theorem HurtW.setCell{Q:Nat→Prop}{g i:Nat}{w:World}{cur:Array Value}(h:Bx 96 w g cur)(hB:Q g)(hi:i % 4=0)(u:Value):HurtW Q w (w.setCell ⟨g,i,none⟩ u):=by
 have hc:=Chg.setCell w g i u;refine⟨World.grownBy.os hc,World.grownBy.tape hc,World.grownBy.output hc,hc.size,fun k hk=> ?_⟩
 by_cases hkg:k=g
 ·subst hkg;refine .inr ⟨hB,cur,_,_,.inr ⟨rfl,fun x hx=> ?_⟩,h,heap_setCell_same w k i _ _ _ h,by simp⟩;rw[Array.getElem?_setIfInBounds,if_neg (by omega)]
 ·exact .inl (hc.heap hk hkg)
def SpBW(Q:Nat→Prop)(n:Nat)(w:World)(g:Nat):Prop:=Q g∧∃cs,Bx 96 w g cs∧n*4≤cs.size∧∀i,i<n→∃b a1 n1 c1 a2 n2 c2,cs[i*4+1]? =some (.bool b)∧cs[i*4+2]? =some (.slice a1 n1 c1)∧cs[i*4+3]? =some (.slice a2 n2 c2)∧ShpR Q w (.agg #[.bool b,.slice a1 n1 c1,.slice a2 n2 c2])
def SpW(Q:Nat→Prop)(w:World)(v:Value):Prop:=∃ad n cap,v= .slice ad n cap∧n≤9223372036854775807∧(n=0∨∃g,ad=some ⟨g,0,none⟩∧SpBW Q n w g)
theorem SpBW.hurtW{Q Q1:Nat→Prop}{n g:Nat}{w w':World}(h:SpBW Q n w g)(he:HurtW Q1 w w'):SpBW Q n w' g:=by
 obtain⟨h1,cs,h2,h3,h4⟩:=h;obtain⟨cs',k1,k2,k3⟩:=h2.hurtTW he;refine⟨h1,cs',k1,by omega,fun i hi=> ?_⟩;obtain⟨b,a1,n1,c1,a2,n2,c2,j1,j2,j3,j4⟩:=h4 i hi;exact⟨b,a1,n1,c1,a2,n2,c2,by rw[k3 _ (by omega)];exact j1,by rw[k3 _ (by omega)];exact j2,by rw[k3 _ (by omega)];exact j3,j4.hurtW he⟩
theorem SpW.hurtW{Q Q1:Nat→Prop}{w w':World}{v:Value}(h:SpW Q w v)(he:HurtW Q1 w w'):SpW Q w' v:=by
 obtain⟨ad,n,cap,h1,h2,h3⟩:=h;exact⟨ad,n,cap,h1,h2,h3.imp_right fun⟨g,a,b⟩=>⟨g,a,b.hurtW he⟩⟩
theorem SpW.ext{Q:Nat→Prop}{w w':World}{v:Value}(h:SpW Q w v)(he:Ext w w'):SpW Q w' v:=h.hurtW (he.hurtsW fun _=>True)
theorem TO.spw{B k B1:Nat}{w:World}{v:Value}{m:List (Int×Rat)}(h:TO B k w v m)(hB:w.heap.size≤B1):SpW (fun k=>B≤k∧k<B1) w v:=by
 obtain⟨ts,h1,h2,h3⟩:=h;obtain⟨ad,cap,e1, -,e3, -⟩:=h2.opn;refine⟨ad,_,cap,e1,by have:=h2.opn;obtain⟨ad',cap',f1,f2,f3, -⟩:=this;omega,?_⟩
 rcases Nat.eq_zero_or_pos (ts.map tmv).length with h0 |h0
 ·exact .inl h0
 obtain⟨g,cap',rest,f1,f2,f3,f4,f5,f6⟩:=h2.hold h0;rw[e1]at f1;simp only[Value.slice.injEq]at f1;refine .inr ⟨g,f1.1,⟨f2,Nat.lt_of_lt_of_le (blk_lt f6) hB⟩,_,f6,by have:=flatS_len h2.1.size;simp only[List.size_toArray,List.length_append];omega,fun i hi=> ?_⟩;rw[List.length_map]at hi;obtain⟨t,ht⟩:∃t,ts[i]? =some t:=⟨_,List.getElem?_eq_getElem hi⟩;obtain⟨x,hx⟩:∃x,m[i]? =some x:=⟨_,List.getElem?_eq_getElem (by omega)⟩;have hHT:HoldT g rest w ts:=⟨strN_tmv _,f6⟩;have hb:Bx 96 w g (flatS (ts.map tmv)++rest).toArray:=f6
 have hel:∀(j:Nat) (u:Value),(tmv t).cells[j]? =some u→(flatS (ts.map tmv)++rest).toArray[i*4+j]? =some u:=fun j u hj=>by
  rw[←hb.cell];exact hHT.at ht w (Ext.refl w) j u hj
 exact⟨t.b,t.a1,t.n1,t.c1,t.a2,t.n2,t.c2,hel 1 _ rfl,hel 2 _ rfl,hel 3 _ rfl,(h3 i t x ht hx).2.1.shpP hB⟩
set_option maxHeartbeats 4000000 in
theorem spoil5w_calls(Q:Nat→Prop)(v:Value)(w:World)(h:SpW Q w v):
  Calls Tryz.prog 51 #[v] w fun e w'=>e= .returned (.tuple #[])∧HurtW Q w w':=by
 obtain⟨ad,n,cap,rfl,hn,h2⟩:=h;have H2:=Lib.hid h2;clear h2
 go_enter Tryz.func51,Tryz.ntmps51
 go_wp2_with fail
 go_loopw [2] (fun s2 wr=>∃i:Nat,i≤n∧s2= .int .i64 (i:Int)∧HurtW Q w wr) (fun s2 _=>((n:Int) - intOf s2).toNat)
 case atStart=>exact ⟨0,Nat.zero_le _,rfl,HurtW.refl _ _⟩
 case round=>
  obtain⟨i,hi,rfl,hH⟩:=hrel
  rcases Nat.eq_or_lt_of_le hi with hin |hin
  ·subst hin
   have hlt:¬((i:Int)<(i:Int)):=by omega
   go_wp2
   go_end0
   exact⟨rfl,hH⟩
  ·have hlt:(i:Int)<(n:Int):=by omega
   obtain⟨g,rfl,hb⟩:=H2.out.resolve_left (by omega);have hb1:=hb.hurtW hH;obtain⟨hBg,cs,hbx,hsz,hel⟩:=hb1;obtain⟨b,a1,n1,c1,a2,n2,c2,j1,j2,j3,j4⟩:=hel i hin
   have hc1:wr.cell? ⟨g,i*4+1,none⟩=some (.bool b):=by rw[hbx.cell];exact j1
   have hc2:wr.cell? ⟨g,i*4+2,none⟩=some (.slice a1 n1 c1):=by rw[hbx.cell];exact j2
   have hc3:wr.cell? ⟨g,i*4+3,none⟩=some (.slice a2 n2 c2):=by rw[hbx.cell];exact j3
   have HSh:=Lib.hid j4;have HBX:=Lib.hid hbx
   have hlt4:i*4<cs.size:=by omega
   clear hel j1 j2 j3 j4 hbx hb;go_wp2_with fail;refine(spoilP_calls _ Q wr HSh.out).mono ?_;rintro e w2 ⟨rfl,h2⟩;have hb2:=HBX.out.hurtP h2 (by decide);have hf0:=hb2.free (i*4);have HV2:=Lib.hid (And.intro (hH.trans h2.w) hb2);have hc0:=hb2.cell (i*4);rw[Array.getElem?_eq_getElem hlt4]at hc0;clear hc1 hc2 hc3 h2 hb2;go_wp2;go_roundw
   case rel=>exact ⟨i+1,by omega,by simp,HV2.out.1.trans (HurtW.setCell HV2.out.2 hBg (by omega) _)⟩
   case measure=>simp [intOf];omega
open Go.ChangeShapes Go.WideShapes Go.ChangeAt
theorem cellsTs:Tryz.prog.cellsOf 29=1:=by kernel_rfl
section
variable {H:Type} {enc:TypeId×Value→H} {w:World} {base:Nat} {spare:Nat→Bool} {held:Bool}
theorem open_termsF{fuel:Nat}{cs:List Value}{x:DataW H×List MemPlace}(B:Nat)(hb:B≤4611686018427387903)(hB:∀n∈x.1.weights Tryz.prog 29,n≤B)(hf:DataW.trod enc Tryz.prog w base spare held fuel 29 cs=some x):
  ∃v l,cs=[v]∧TLE w v l:=by
 obtain⟨v',ys,h1,h2,h3, -⟩:=open_structs (R:=TmE) (F:=fun _ _=>True) B Tryz.underlying29 cellsTm (by omega) (fun fuel cs x hl hw hx=>by
  obtain⟨c,b,s,t,xs,ys,rfl,wc,hL,hd,hL2,hd2,hB2⟩:=open_termC hx;have hh:=hB2 B hw;have hE:RawE w (.agg #[.bool b,s,t]) (b,xs,ys):=⟨⟨s,t,rfl,hL,hL2⟩,hd,hd2,by show xs.length+ys.length≤_;omega⟩;have hL':=hL;have hL2':=hL2;obtain⟨a1,c1,rfl, -⟩:=hL';obtain⟨a2,c2,rfl, -⟩:=hL2'
  exact⟨(c,b,xs,ys),⟨b,a1,_,c1,a2,_,c2,rfl,hE⟩,trivial⟩) hB hf
 exact⟨v',ys,h1,h2⟩
end
end Go.Proofs.YtokfaggcojokgaaGreat
