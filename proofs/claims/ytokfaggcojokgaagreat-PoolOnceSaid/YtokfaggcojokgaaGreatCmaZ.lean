/-
 The documents' vectors: a times one, and another one (Axpy).
-/
import Derived.Test.YtokfaggcojokgaaGreatVrfZ
import Derived.Test.YtokfaggcojokgaaGreatVfcZ
import Derived.Laws.MakeOwn
import Derived.Test.YtokfaggcojokgaaGreatComZ
namespace Go.Proofs.YtokfaggcojokgaaGreat
set_option maxRecDepth 100000
set_option maxHeartbeats 1000000
open Go.RowKit
set_option linter.unusedVariables false
set_option linter.unusedSimpArgs false
theorem SLQ.ql{w:World}{u:Value}{l:List RE}(h:SLQ w u l)(k:Nat)(hk:1≤k)(hk2:k≤LIM)(hl:∀e∈l,e.2.1.length+e.2.2.length≤k):QL k w u (l.map ratE):=by
 obtain⟨ad,cap,h1,h2,h3,h4⟩:=h;refine⟨ad,cap,by rw[List.length_map];exact h1,by rw[List.length_map];exact h2,h3,?_⟩
 rcases h4 with h4 |⟨g,off,h4,h5⟩
 ·exact .inl (by rw[h4];rfl)
 ·refine .inr ⟨g,off,h4,fun i x hi=> ?_⟩;rw[List.getElem?_map]at hi
  cases he:l[i]? with
  |none=>rw [he]at hi;cases hi
  |some e=>
   rw[he]at hi;simp only[Option.map_some,Option.some.injEq]at hi;subst hi;obtain⟨cs,k1,k2,k4⟩:=h5 i e he
   have:=hl e (List.mem_of_getElem? he)
   exact⟨cs,k1,k2,k4.1.isR k4.2.1 k4.2.2.1 k (by omega) (by omega) hk hk2⟩
set_option maxHeartbeats 4000000 in
theorem greatAll_calls(v:Value)(l:List RE)(w:World)(hv:SLQ w v l):
  Calls Tryz.prog 17 #[v] w fun e w'=>e= .returned (.bool (greatE l))∧Ext w w':=by
 obtain⟨ad,n,cap,hnl,rfl,hn1,hat⟩:=hv.at;have HV:=Lib.hid hv;have HN:=Lib.hid hnl;have HAT:=Lib.hid hat;clear hnl hat hv
 go_enter Tryz.func17,Tryz.ntmps17
 go_wp2_with fail
 go_loopw [3] (fun s wr=>∃i:Nat,i≤n∧s= .int .i64 (i:Int)∧Hid (∀e∈l.take i,wordsE e≤6)∧Ext w wr) (fun s _=>((n:Int) - intOf s).toNat)
 case atStart=>exact ⟨0,Nat.zero_le _,rfl,Lib.hid (fun e he=>by simp at he),Ext.refl _⟩
 case round=>
  obtain⟨i,hi,rfl,hS,hE0⟩:=hrel
  rcases Nat.eq_or_lt_of_le hi with hin |hin
  ·subst hin
   have hlt:¬((i:Int)<(i:Int)):=by omega
   have hall:∀e∈l,wordsE e≤6:=by have:=hS.out;rwa [HN.out,List.take_length]at this
   have hG:greatE l=(decide (30<i) || decide (18<weightE l)):=by
    rw[greatE_rest hall,←HN.out]
   have HG:=Lib.hid hG;have HALL:=Lib.hid hall;clear hG hall
   by_cases h30:30<i
   ·have h30':(30:Int)<(i:Int):=by omega
    have HR:Hid (greatE l=true):=Lib.hid (by rw[HG.out,decide_eq_true h30];rfl)
    go_wp2;go_ret
    exact⟨by rw[HR.out]<;>rfl,hE0⟩
   ·have h30':¬(30:Int)<(i:Int):=by omega
    have HR:Hid (greatE l=decide (18<weightE l)):=Lib.hid (by rw[HG.out,decide_eq_false h30];rfl)
    go_wp2_with fail;refine(weight_calls _ l wr (HV.out.ext hE0) (by rw[←HN.out];omega) HALL.out).mono ?_;rintro e w2 ⟨rfl,e2⟩;obtain⟨p,hp⟩:∃p,p=weightE l:=⟨_,rfl⟩;rw[←hp]at HR ⊢;clear hp
    by_cases h18:18<p
    ·have h18':(18:Int)<(p:Int):=by omega
     have HR2:Hid (greatE l=true):=Lib.hid (by rw[HR.out,decide_eq_true h18])
     go_wp2;go_ret
     exact⟨by rw[HR2.out]<;>rfl,hE0.trans e2⟩
    ·have h18':¬(18:Int)<(p:Int):=by omega
     have hd18:decide ((18:Int)<(p:Int))=false:=decide_eq_false h18'
     have HR2:Hid (greatE l=false):=Lib.hid (by rw[HR.out,decide_eq_false h18])
     go_wp2;go_ret
     exact⟨by rw[HR2.out]<;>rfl,hE0.trans e2⟩
  ·have hlt:(i:Int)<(n:Int):=by omega
   obtain⟨⟨xb,xs,xt⟩,hx⟩:∃x,l[i]? =some x:=⟨_,List.getElem?_eq_getElem (by rw[←HN.out];exact hin)⟩;obtain⟨g,off,rfl,b,a1,n1,c1,a2,n2,c2, -, -,hcell⟩:=HAT.out i _ hx;obtain⟨hc0,hc1,hc2,hR⟩:=hcell wr hE0;have HRX:=Lib.hid hR;have HX:=Lib.hid hx;obtain⟨p,hp⟩:∃p,p=xs.length+xt.length:=⟨_,rfl⟩;have HP:=Lib.hid hp;obtain⟨i1,hi1⟩:∃i1,i1=i+1:=⟨_,rfl⟩
   have hi1':(i:Int)+1=(i1:Int):=by omega
   have hi1n:i1≤n:=by omega
   have HI1:=Lib.hid hi1;clear hcell hx hR hp hi1;go_wp2_with fail;refine(rqwords3_calls _ xb xs xt wr HRX.out.1 HRX.out.2.2.2).mono ?_;rintro e w2 ⟨rfl,e2⟩;rw[←HP.out]
   by_cases h6:6<p
   ·have h6':(6:Int)<(p:Int):=by omega
    have HR:Hid (greatE l=true):=Lib.hid (greatE_words (i:=i) (e:=(xb,xs,xt)) HX.out (by show 6<xs.length+xt.length;rw[←HP.out];exact h6))
    go_wp2;go_ret
    exact⟨by rw[HR.out]<;>rfl,hE0.trans e2⟩
   ·have h6':¬(6:Int)<(p:Int):=by omega
    have hs:∀e∈l.take i1,wordsE e≤6:=by
     rw[HI1.out,List.take_add_one,HX.out];intro e he
     rcases List.mem_append.1 he with he |he
     ·exact hS.out e he
     ·simp only[Option.toList_some,List.mem_singleton]at he;subst he
      show xs.length+xt.length≤6
      rw[←HP.out]
      omega
    have HS:=Lib.hid hs;clear hs;go_wp2;go_roundw
    case rel=>exact ⟨i1,hi1n,rfl,HS,hE0.trans e2⟩
    case measure=>have:=HI1.out;simp[intOf];omega
def FrE(B:Nat)(w:World)(v:Value)(e:RE):Prop:=FrR B w v e.1 e.2.1 e.2.2
theorem dotS_snoc(f:Int→Rat)(ys:List Rat)(y:Rat):∀c,dotS f (ys++ [y]) c=dotS f ys c+f (c+(ys.length:Int))*y:=by
 induction ys with
 |nil=>intro c;simp[dotS,Rat.zero_add,Rat.add_zero]
 |cons x ys ih=>
  intro c;rw[List.cons_append];simp only[dotS,ih];rw[List.length_cons,Rat.add_assoc,show c+1+(ys.length:Int)=c+((ys.length+1:Nat):Int)by omega]
set_option maxHeartbeats 4000000 in
theorem dot5_calls(k:Nat)(v u:Value)(l:List (Int×Rat))(xs:List Rat)(w:World)(hl:TL k w v l)(hx:QL k w u xs)(hk:k≤1000)(hn:l.length≤1000)(hnx:xs.length≤1000):
  Calls Tryz.prog 54 #[v,u] w fun e w'=>∃v',e= .returned v'∧FrQd w.heap.size w' v' (dotV l xs)∧szD (dotV l xs)≤68719476736∧Ext w w':=by
 obtain⟨ad,n,cap,hnl,rfl,hn1,hat⟩:=hx.at;rw[←hnl]at hnx;have HN:=Lib.hid hnl;have HAT:=Lib.hid hat;have HL:=Lib.hid hl;have HNL:=Lib.hid hn;obtain⟨G,hG⟩:∃G,G=l.length*(5*k+1)+1:=⟨_,rfl⟩
 have hGb:G≤5001001:=by
  have:l.length*(5*k+1)≤1000*5001:=Nat.mul_le_mul (by omega) (by omega)
  omega
 have HG:=Lib.hid hG;obtain⟨C,hC1,hC2⟩:∃C:Nat,C≤5006002∧5006002≤C:=⟨5006002,Nat.le_refl _,Nat.le_refl _⟩;clear hnl hx hat hl hn hG
 obtain⟨q,hq⟩:∃q:Nat→Rat,q=fun i=>dotS (getV l) (xs.take i) 0:=⟨_,rfl⟩
 have hq0:q 0=0:=by rw[hq];rfl
 have hqn:q n=dotV l xs:=by rw[hq,dotV_sum];simp only;rw[HN.out,List.take_length]
 have hqs:∀(i:Nat) (x:Rat),xs[i]? =some x→q (i+1)=q i+getV l (i:Int)*x:=fun i x hi=>by
  rw[hq]
  simp only
  rw[take_next hi,dotS_snoc,Int.zero_add,List.length_take,Nat.min_eq_left (Nat.le_of_lt (List.getElem?_eq_some_iff.1 hi).1)]
 have HQ0:=Lib.hid hq0;have HQN:=Lib.hid hqn;have HQS:=Lib.hid hqs;clear hq hq0 hqn hqs;rw[←HQN.out]
 go_enter Tryz.func54,Tryz.ntmps54
 obtain⟨w1,hw1,e1,b1,s1⟩:=alloc1 w #[.bool false,.slice none 0 0,.slice none 0 0] 81;go_wp2_with fail;rw[←hw1];refine(rqsmall3_calls 0 _ (by omega) (by omega)).mono ?_;rintro e w2 ⟨v2,rfl,q2,e2⟩;obtain⟨b,ad2,l2,cap2,bd,m2,dap,rfl,q2⟩:=q2.opn;have Hq2:=Lib.hid q2;obtain⟨w3,hw3,e3,b3,s3⟩:=alloc1 w2 #[.bool b,.slice ad2 l2 cap2,.slice bd m2 dap] 81;clear q2;go_wp2_with fail;rw[←hw3];have HJ:DtJ w w3 w2.heap.size (0*C+1) (q 0):=⟨(e1.trans e2).trans e3,_,_,_,_,_,_,_,b3,by rw[HQ0.out];exact(Hq2.out.ext e3).mono e1.size,by rw[HQ0.out];have:szD 0≤1:=(by decide);rw[Nat.zero_mul];exact this⟩;have HJ0:=Lib.hid HJ
 have hs2:w.heap.size<w2.heap.size:=by have:=e1.size;have:=e2.size;have:=b1.lt;have:=s1;omega
 obtain⟨g5,hg5⟩:∃g5,g5=w2.heap.size:=⟨_,rfl⟩;rw[←hg5]at HJ0 hs2 ⊢;have B1:Bx 81 w3 w.heap.size #[.bool false,.slice none 0 0,.slice none 0 0]:=(b1.ext e2).ext e3;clear HJ hw1 hw3 hg5 Hq2
 go_loopw [6] (fun s6 wr=>∃i:Nat,i≤n∧s6= .int .i64 (i:Int)∧Hid (DtJ w wr g5 (i*C+1) (q i)∧Bx 81 wr w.heap.size #[.bool false,.slice none 0 0,.slice none 0 0])) (fun s6 _=>((n:Int) - intOf s6).toNat)
 case atStart=>exact ⟨0,Nat.zero_le _,rfl,Lib.hid ⟨HJ0.out,B1⟩⟩
 case round=>
  obtain⟨i,hi,rfl,hH⟩:=hrel;obtain⟨⟨hE0,rb,r1,m1,d1,r2,m2',d2,hbx,hq,hsz⟩,hB0⟩:=hH.out;have HQ:=Lib.hid hq;have HSZ:=Lib.hid hsz;clear hq hsz hH HJ0 B1 b1 b3 e1 e2 e3 s1 s3
  rcases Nat.eq_or_lt_of_le hi with hin |hin
  ·subst hin
   have hlt:¬((i:Int)<(i:Int)):=by omega
   have hcx0:=hbx.cell 0;have hcx1:=hbx.cell 1;have hcx2:=hbx.cell 2;have hb:=hB0;have hc0:=hb.cell 0;have hc1:=hb.cell 1;have hc2:=hb.cell 2;have hf0:=hb.free 0;have hf1:=hb.free 1;have hf2:=hb.free 2;clear hbx;have hszw:=hE0.size;go_wp2;refine ret_box 4 81 w.heap.size 81 _ _ (by kernel_rfl) rfl (((hb.set 0 _).set 1 _).set 2 _) Tryz.underlying81 rfl (by kernel_rfl) rfl ?_;exact⟨_,rfl,HQ.out.chgN (Chg.trans (Chg.trans (Chg.setCell _ w.heap.size 0 _) (Chg.setCell _ w.heap.size 1 _)) (Chg.setCell _ w.heap.size 2 _)) hB0 (((hb.set 0 _).set 1 _).set 2 _) (by decide) (by decide),by have:=HSZ.out;have h3:i*C≤1000*5006002:=Nat.mul_le_mul (by omega) hC1;omega,hE0.step (Chg.trans (Chg.trans (Chg.setCell _ w.heap.size 0 _) (Chg.setCell _ w.heap.size 1 _)) (Chg.setCell _ w.heap.size 2 _)) (by omega)⟩
  ·have hlt:(i:Int)<(n:Int):=by omega
   obtain⟨x,hx⟩:∃x,xs[i]? =some x:=⟨_,List.getElem?_eq_getElem (by rw[←HN.out];exact hin)⟩;obtain⟨g,off,rfl,b',a1,n1,c1,a2,n2,c2,hcell,hR⟩:=HAT.out i x hx;have HC:=Lib.hid hcell
   have hmul:i*C+C=(i+1)*C:=(Nat.succ_mul i C).symm
   have hic:i*C≤1000*5006002:=Nat.mul_le_mul (by omega) hC1;have HX:=Lib.hid hR;have HQS1:=Lib.hid (HQS.out i x hx);obtain⟨y,hy⟩:∃y,y=getV l (i:Int):=⟨_,rfl⟩;rw[←hy]at HQS1;have HY:=Lib.hid hy;clear hx hR hcell hy;go_wp2_with fail;have h5g:g5<wr.heap.size:=hbx.lt;refine wpP [⟨11,g5,81,PP.frQdS (q i+y*x) ((i+1)*C+1)⟩] [PP.val (.agg #[.bool rb,.slice r1 m1 d1,.slice r2 m2' d2]),PP.val (v),PP.val (.int .i64 (i:Int)),PP.frQdS y G,PP.val (.slice (some ⟨g,off,none⟩) n cap),PP.val (.int .i64 (i:Int)),PP.val (.pointer (some ⟨g,off+i*3,none⟩)),PP.val (.agg #[.bool b',.slice a1 n1 c1,.slice a2 n2 c2]),PP.frQd x,PP.frQdS (y*x) (G+5*k),PP.frQdS (q i+y*x) ((i+1)*C+1),PP.any] [] [11,10,9,8,7,6,5,4,3,2,1,0] ?_ ?_ ?_ ?_ ?_
   ·intro x hx;simp only[List.mem_singleton]at hx;subst hx;exact⟨by show g5<wr.heap.size;omega,rfl⟩
   ·intro x hx;simp only[List.mem_singleton]at hx;subst hx;rfl
   ·intro x hx y hy h;simp only[List.mem_singleton]at hx hy;subst hx hy;exact absurd rfl h
   ·refine⟨?_,?_,?_,?_,?_,?_,?_,?_,?_,?_,?_,?_,trivial⟩
    ·intro f w6 hG hp hl;have hE:Ext wr w6:=hG;change OpGoal _ _ _ f w6 Ext _;exact og_load (P:=Tryz.prog) _ _ g5 _ _ _ rfl rfl rfl (hbx.ext hE) Tryz.underlying81 rfl (by kernel_rfl) rfl
    ·intro f w6 hG hp hl;simp only[OpGoal];go_simp;exact⟨_,rfl,Ext.refl _,rfl⟩
    ·intro f w6 hG hp hl;simp only[OpGoal];go_simp;exact⟨_,rfl,Ext.refl _,rfl⟩
    ·intro f w6 hG hp hl;have hE:Ext wr w6:=hG;have hS:=hE.size;have q15:=tE hp 0 1 rfl rfl rfl;have q16:=tE hp 1 2 rfl rfl rfl;change OpGoal _ _ _ f w6 Ext _;refine oC #[f 1,f 2] Tryz.func120 rfl rfl ?_;rw[q15,q16];refine(get5_calls k _ (i:Int) l _ (HL.out.ext (hE0.trans hE)) (by omega) (by have:=HNL.out;omega)).mono ?_;rw[←HY.out,←HG.out];rintro e w' ⟨v',rfl,h1,h3,h2⟩;exact⟨v',rfl,h2,h1.mono hS,h3⟩
    ·intro f w6 hG hp hl;simp only[OpGoal];go_simp;exact⟨_,rfl,Ext.refl _,rfl⟩
    ·intro f w6 hG hp hl;simp only[OpGoal];go_simp;exact⟨_,rfl,Ext.refl _,rfl⟩
    ·intro f w6 hG hp hl;have q18:=tE hp 0 4 rfl rfl rfl;have q19:=tE hp 1 5 rfl rfl rfl;simp only[OpGoal];go_simp;exact⟨_,rfl,Ext.refl _,rfl⟩
    ·intro f w6 hG hp hl;have hE:Ext wr w6:=hG;have q20:=tE hp 0 6 rfl rfl rfl;change OpGoal _ _ _ f w6 Ext _;exact og_loadAt (P:=Tryz.prog) _ _ g (off+i*3) _ _ rfl rfl q20 (fun j v h=>HC.out _ (hE0.trans hE) j v h) Tryz.underlying34 rfl (by kernel_rfl) rfl
    ·intro f w6 hG hp hl;have hE:Ext wr w6:=hG;have hS:=hE.size;have q21:=tE hp 0 7 rfl rfl rfl;change OpGoal _ _ _ f w6 Ext _;refine oC #[f 7] Tryz.func55 rfl rfl ?_;rw[q21];refine(rqofR_calls _ x k _ (HX.out.ext (hE0.trans hE)) (by omega)).mono ?_;rintro e w' ⟨v',rfl,h1,h2⟩;exact⟨v',rfl,h2,h1.mono hS⟩
    ·intro f w6 hG hp hl;have hE:Ext wr w6:=hG;have hS:=hE.size;have q17:=tellV hp 0 3 rfl rfl (fun _=>hE);have q22:=tellV hp 1 8 rfl rfl (fun _=>hE);change OpGoal _ _ _ f w6 Ext _;refine oC #[f 3,f 8] Tryz.func63 rfl rfl ?_;refine(rqmul3_calls _ _ y x G (5*k) _ q17.1.cq q22.cq q17.2 (szD_of HX.out.sz) (by omega)).mono ?_;rintro e w' ⟨v',rfl,h1,h3,h2⟩;exact⟨v',rfl,h2,h1.mono hS,h3⟩
    ·intro f w6 hG hp hl;have hE:Ext wr w6:=hG;have hS:=hE.size;have q14:=tE hp 0 0 rfl rfl rfl;have q23:=tellV hp 1 9 rfl rfl (fun _=>hE);change OpGoal _ _ _ f w6 Ext _;refine oC #[f 0,f 9] Tryz.func61 rfl rfl ?_;rw[q14];refine(rqadd3_calls _ _ (q i) (y*x) (i*C+1) (G+5*k) _ (HQ.out.ext hE).cq q23.1.cq HSZ.out q23.2 (by omega)).mono ?_;rintro e w' ⟨v',rfl,h1,h3,h2⟩;exact⟨v',rfl,h2,h1.mono hS,by omega⟩
    ·intro f w6 hG hp hl;have hE:Ext wr w6:=hG;have hS:=hE.size;have q24:=tellV hp 0 10 rfl rfl (fun _=>hE);intro hg0;change OpGoal _ _ _ f w6 (Chg _) _;obtain⟨⟨s',t',hv,hn,hm⟩,hsz⟩:=q24;exact og_store (P:=Tryz.prog) _ _ _ g5 _ _ _ (PP.frQdS _ _:PP _).p rfl rfl rfl hv (show Bx 81 w6 _ _ from hg0.trans hbx) (by kernel_rfl) rfl (all3 rfl hn.oneCell hm.oneCell) (fun w' h=>⟨⟨s',t',rfl,hn.chg h (by omega),hm.chg h (by omega)⟩,hsz⟩)
   ·intro f w6 hG hp;obtain⟨cs0,hbx0,hz0⟩:∃cs,Bx 81 w6 g5 cs∧(PP.frQdS (q i+y*x) ((i+1)*C+1):PP wr.heap.size).p (.agg cs) w6:=endS hp 11 (by decide);clear hp;obtain⟨hz1,hz2⟩:=hz0;obtain⟨b6,a6,l6,cap6,a7,l7,cap7,hvv,hz1⟩:=hz1.opn
    cases hvv
    have Hq6:=Lib.hid hz1;have Z6:=Lib.hid hz2;have hsz6:=hE0.size;have E6:Ext w w6:=hE0.stepS hG (by simp;omega);have B06:Bx 81 w6 w.heap.size #[.bool false,.slice none 0 0,.slice none 0 0]:=hB0.chgS hG (by simp;omega);clear hz1 hz2;go_wp2;go_roundw
    case rel=>
     refine⟨i+1,by omega,congrArg (Value.int .i64) (by omega),Lib.hid ⟨⟨E6,_,_,_,_,_,_,_,hbx0,?_,?_⟩,B06⟩⟩
     ·rw[HQS1.out];exact Hq6.out.mono hsz6
     ·rw[HQS1.out];exact Z6.out
    case measure=>simp [intOf];omega
theorem TO.at{B k:Nat}{w:World}{v:Value}{m:List (Int×Rat)}(h:TO B k w v m):∃ad cap,v= .slice ad m.length cap∧m.length≤9223372036854775807∧∀(i:Nat) (x:Int×Rat),m[i]? =some x→∃g,ad=some ⟨g,0,none⟩∧∃b a1 n1 c1 a2 n2 c2,
  (∀wz,Ext w wz→wz.cell? ⟨g,i*4,none⟩=some (.int .i64 x.1)∧wz.cell? ⟨g,i*4+1,none⟩=some (.bool b)∧wz.cell? ⟨g,i*4+2,none⟩=some (.slice a1 n1 c1)∧wz.cell? ⟨g,i*4+3,none⟩=some (.slice a2 n2 c2))∧FrQ B w (.agg #[.bool b,.slice a1 n1 c1,.slice a2 n2 c2]) x.2∧szQ x.2≤k:=by
 obtain⟨ts,h1,h2,h3⟩:=h;obtain⟨ad,cap,e1,e2,e3, -⟩:=h2.opn;rw[List.length_map,h1]at e1 e2;refine⟨ad,cap,e1,by omega,fun i x hi=> ?_⟩;obtain⟨t,ht⟩:∃t,ts[i]? =some t:=⟨_,List.getElem?_eq_getElem (by have:=(List.getElem?_eq_some_iff.1 hi).1;omega)⟩;obtain⟨k1,k2,k3⟩:=h3 i t x ht hi;obtain⟨g',cap2,j1,j2,cs,j3,j4,j5,j6⟩:=h2.at (by omega) (i:=i) (u:=tmv t) (by rw[List.getElem?_map,ht];rfl);rw[e1]at j1;simp only[Value.slice.injEq]at j1;unfold tmv at j3
 cases j3
 refine⟨g',j1.1,t.b,t.a1,t.n1,t.c1,t.a2,t.n2,t.c2,fun wz hz=>⟨?_,?_,?_,?_⟩,k2,k3⟩
 ·rw[←k1];exact(j6 wz hz 0 _ rfl).1
 ·exact(j6 wz hz 1 _ rfl).1
 ·exact(j6 wz hz 2 _ rfl).1
 ·exact(j6 wz hz 3 _ rfl).1
theorem TLE.val{w:World}{v:Value}{l:List TE}(h:TLE w v l):∃ad n cap,v= .slice ad n cap:=by
 obtain⟨ad,m,cap,h1,h2, -⟩:=h.at;exact⟨ad,m,cap,h2⟩
theorem TO.val{B k:Nat}{w:World}{v:Value}{l:List (Int×Rat)}(h:TO B k w v l):∃ad cap,v= .slice ad l.length cap:=by
 obtain⟨ts,h1,h2, -⟩:=h;obtain⟨ad,cap,e, -⟩:=h2.opn;rw[List.length_map,h1]at e;exact⟨ad,cap,e⟩
theorem TL.le{k k':Nat}{w:World}{v:Value}{l:List (Int×Rat)}(h:TL k w v l)(hk:k≤k'):TL k' w v l:=
 SL.map h fun u y ⟨b,a1,n1,c1,a2,n2,c2,e,hR⟩=>⟨b,a1,n1,c1,a2,n2,c2,e,hR.mono hk⟩
theorem TO.to{B k k':Nat}{w:World}{v:Value}{m:List (Int×Rat)}(h:TO B k w v m)(hk:∀x∈m,szQ x.2≤k'):TO B k' w v m:=by
 obtain⟨ts,h1,h2,h3⟩:=h;exact⟨ts,h1,h2,fun i t x ht hx=>⟨(h3 i t x ht hx).1,(h3 i t x ht hx).2.1,hk x (List.mem_of_getElem? hx)⟩⟩
theorem TO.szs{B k:Nat}{w:World}{v:Value}{m:List (Int×Rat)}(h:TO B k w v m):∀x∈m,szQ x.2≤k:=by
 obtain⟨ts,h1,h2,h3⟩:=h;intro x hx;obtain⟨i,hi,rfl⟩:=List.getElem_of_mem hx;exact(h3 i _ _ (List.getElem?_eq_getElem (by omega)) (List.getElem?_eq_getElem hi)).2.2
def ratT(l:List TE):List (Int×Rat):=l.map fun e=>(e.1,ratE e.2)
def OV{α:Type}(t:TypeId)(B:Nat)(R:World→Value→α→Prop)(w:World)(v:Value)(ys:List α):Prop:=∃vs,w.ownsRow B t 1 v vs.length vs∧vs.length=ys.length∧∀(i:Nat) (u:Value) (y:α),vs[i]? =some u→ys[i]? =some y→R w u y
theorem OV.nil{α:Type}(t:TypeId)(B:Nat)(R:World→Value→α→Prop)(w:World):OV t B R w (.slice none 0 0) []:=⟨[],⟨rfl,.inl ⟨rfl,rfl⟩⟩,rfl,fun i u y h=>by simp at h⟩
theorem ownsRow_ge{B e size n:Nat}{w:World}{v:Value}{xs:List Value}(h:w.ownsRow B e size v n xs):∀g,v.ownBlock=some g→B≤g:=by
 intro g hg
 rcases h.2 with⟨h1,h2⟩ |⟨g',cap,cur,h1,h2,h3,h4⟩
 ·rw[h1]at hg;cases hg
 ·rw[h1]at hg;simp only[Value.ownBlock,Option.some.injEq]at hg;subst hg;exact h2
theorem OV.app{α:Type}{t:TypeId}{B n:Nat}{R:World→Value→α→Prop}{w w':World}{v':Value}{vs:List Value}{ys:List α}{u:Value}{y:α}(h2:vs.length=ys.length)(h3:∀(i:Nat) (u:Value) (y:α),vs[i]? =some u→ys[i]? =some y→R w u y)(hn:n=vs.length)(hLS:w'.ownsRow B t 1 v' (n+1) (vs++ [u]))(hR:∀u y,R w u y→R w' u y)(hu:R w' u y):OV t B R w' v' (ys++ [y]):=by
 subst hn;refine⟨vs++ [u],by rw[List.length_append];exact hLS,by rw[List.length_append,List.length_append,h2];rfl,fun i a b ha hb=> ?_⟩
 rcases Nat.lt_or_ge i vs.length with hi |hi
 ·rw[List.getElem?_append_left hi]at ha;rw[List.getElem?_append_left (by omega)]at hb;exact hR _ _ (h3 i a b ha hb)
 ·rw[List.getElem?_append_right hi]at ha;rw[List.getElem?_append_right (by omega)]at hb;rw[←h2]at hb
  have hz:i - vs.length=0:=by
   rcases Nat.eq_zero_or_pos (i - vs.length)with hz |hz
   ·exact hz
   ·rw[List.getElem?_eq_none (by simp;omega)]at ha
    cases ha
  rw[hz]at ha hb;simp only[List.getElem?_cons_zero,Option.some.injEq]at ha hb;subst ha hb;exact hu
theorem TO.chgB{B k g:Nat}{w w':World}{v:Value}{m:List (Int×Rat)}{t:TypeId}{cs:Array Value}(h:TO B k w v m)(hc:Chg g w w')(hb:Bx t w g cs)(ht:t≠172)(ht2:t≠96):TO B k w' v m:=by
 obtain⟨ts,h1,h2,h3⟩:=h;exact⟨ts,h1,h2.chgT hc hb ht2,fun i t x a b=>⟨(h3 i t x a b).1,(h3 i t x a b).2.1.chgB hc hb ht,(h3 i t x a b).2.2⟩⟩
theorem scV_szs{ka k:Nat}{a:Rat}{l:List (Int×Rat)}(ha:szQ a≤ka)(hl:∀x∈l,szQ x.2≤k):∀x∈scV a l,szQ x.2≤ka+k:=by
 intro x hx;unfold scV at hx;obtain⟨y,hy,rfl⟩:=List.mem_map.1 hx;exact szQ_mul ha (hl y hy)
def weightM:List (List TE)→Nat
 | []=>0
 |l::ms=>weightE (l.map Prod.snd)+weightM ms
def greatM(ms:List (List TE)):Bool:=ms.any greatV || (decide (12<ms.length) || decide (18<weightM ms))
theorem greatM_not{ms:List (List TE)}(h:greatM ms=false):ms.length≤12∧∀l∈ms,l.length≤30∧∀e∈l,wordsE e.2≤6:=by
 unfold greatM at h;simp only[Bool.or_eq_false_iff,List.any_eq_false,decide_eq_false_iff_not]at h;refine⟨by omega,fun l hl=> ?_⟩
 have h1:greatV l=false:=by simpa using h.1 l hl
 obtain⟨k1,k2⟩:=greatE_not h1;rw[List.length_map]at k1;exact⟨k1,fun e he=>k2 e.2 (List.mem_map_of_mem he)⟩
theorem weightE_le{l:List RE}(h:greatE l=false):weightE l≤18:=by
 unfold greatE at h;simp only[Bool.or_eq_false_iff,decide_eq_false_iff_not]at h
 omega
theorem TLO.val{B:Nat}{w:World}{v:Value}{l:List TE}(h:TLO B w v l):∃ad n cap,v= .slice ad n cap:=h.tle.val
theorem TLO.mono{B B':Nat}{w:World}{v:Value}{l:List TE}(h:TLO B w v l)(hB:B'≤B):TLO B' w v l:=by
 obtain⟨⟨ts,h1,h2,h3⟩,hd⟩:=h;exact⟨⟨ts,h1,h2.mono hB,fun j t e a b=>⟨(h3 j t e a b).1,(h3 j t e a b).2.mono hB⟩⟩,hd⟩
open Go.ChangeShapes Go.WideShapes Go.ChangeAt
theorem cellsTs:Tryz.prog.cellsOf 29=1:=by kernel_rfl
section
variable {H:Type} {enc:TypeId×Value→H} {w:World} {base:Nat} {spare:Nat→Bool} {held:Bool}
theorem open_termsF{fuel:Nat}{cs:List Value}{x:DataW H×List MemPlace}(B:Nat)(hb:B≤4611686018427387903)(hB:∀n∈x.1.weights Tryz.prog 29,n≤B)(hf:DataW.trod enc Tryz.prog w base spare held fuel 29 cs=some x):
  ∃v l,cs=[v]∧TLE w v l:=by
 obtain⟨v',ys,h1,h2,h3, -⟩:=open_structs (R:=TmE) (F:=fun _ _=>True) B Tryz.underlying29 cellsTm (by omega) (fun fuel cs x hl hw hx=>by
  obtain⟨c,b,s,t,xs,ys,rfl,wc,hL,hd,hL2,hd2,hB2⟩:=open_termC hx;have hh:=hB2 B hw;have hE:RawE w (.agg #[.bool b,s,t]) (b,xs,ys):=⟨⟨s,t,rfl,hL,hL2⟩,hd,hd2,by show xs.length+ys.length≤_;omega⟩;have hL':=hL;have hL2':=hL2;obtain⟨a1,c1,rfl, -⟩:=hL';obtain⟨a2,c2,rfl, -⟩:=hL2'
  exact⟨(c,b,xs,ys),⟨b,a1,_,c1,a2,_,c2,rfl,hE⟩,trivial⟩) hB hf
 exact⟨v',ys,h1,h2⟩
end
end Go.Proofs.YtokfaggcojokgaaGreat
