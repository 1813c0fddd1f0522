/-
 The document's fractions, walked (IV): rounding; sameness, copies, sizes of fractions as they are handed in; a result's memory written over.
-/
import Derived.Test.YtbmnlaepfckmkaaGreatRteZ
namespace Go.Proofs.YtbmnlaepfckmkaaGreat
set_option maxRecDepth 100000
set_option maxHeartbeats 1000000
open Go.RowKit
set_option linter.unusedVariables false
set_option linter.unusedSimpArgs false
theorem og_guard{P:Program}{o:Oper}{a:Act}{f:Nat→Value}{w:World}{R:World→World→Prop}{p:Value→World→Prop}{j:Nat}{want:Bool}(hg:o.guard=some (j,want))(hj:f j= .bool want)(h:OpGoal P {o with guard:=none} a f w R p):OpGoal P o a f w R p:=by
 cases o with
 |mk dst op type pos after guard=>
  subst hg;exact⟨fun _=>h,fun hn=>absurd hj hn⟩
theorem rqiswhole3_calls(v:Value)(q:Rat)(w:World)(hv:CQ w v q)(hsz:szD q≤34359738000):
  Calls Tryz.prog 32 #[v] w fun e w'=>e= .returned (.bool (decide (q.den=1)))∧Ext w w':=by
 obtain⟨s,t,rfl,hs,ht⟩:=hv;have hk:=szD_le hsz
 have hcm:(decide (cmpN q.den 1=0))=decide (q.den=1):=by
  unfold cmpN
  have:=q.den_pos
  split
  ·omega
  ·split
   ·rename_i h1 h2;rw[decide_eq_true h2];rfl
   ·rename_i h1 h2;rw[decide_eq_false h2];rfl
 have Hcm:=Lib.hid hcm;clear hcm
 go_enter Tryz.func32,Tryz.ntmps32
 obtain⟨w1,hw1,e1,b1,s1⟩:=alloc1 w #[.bool (decide (q.num<0)),s,t] 56;obtain⟨w2,hw2,e2,b2,s2⟩:=alloc1 w1 #[.int .i64 1] 3;have hone:=isN_one (k:= .i64) (B:=TK) w1 1 3 (by rw[TK_eq];omega);rw[show ((1:Nat):Int)=1 from rfl,←hw2,s1]at hone;have hc2:=b1.cell 2;rw[hw1]at hc2;go_wp2_with fail;rw[←hw1,←hw2];clear hc2;refine(rcmp01_calls _ _ q.den 1 _ ((ht.isN TK_gt (by rw[LIM_eq];omega)).ext (e1.trans e2)) hone).mono ?_;rintro e w3 ⟨rfl,e3⟩;go_wp2;go_ret;exact⟨by rw[←Hcm.out];rfl,(e1.trans e2).trans e3⟩
def RawQ(w:World)(v:Value)(b:Bool)(xs ys:List Nat):Prop:=∃s t,v= .agg #[.bool b,s,t]∧IsL .u64 w s xs∧IsL .u64 w t ys
theorem RawQ.ext{w w':World}{v:Value}{b:Bool}{xs ys:List Nat}(h:RawQ w v b xs ys)(he:Ext w w'):RawQ w' v b xs ys:=by
 obtain⟨s,t,h1,h2,h3⟩:=h;exact⟨s,t,h1,h2.ext he,h3.ext he⟩
theorem FrQ.raw{B0:Nat}{w:World}{v:Value}{q:Rat}(h:FrQ B0 w v q):RawQ w v (decide (q.num<0)) (dg W q.num.natAbs) (dg W q.den):=by
 obtain⟨s,t,h1,h2,h3⟩:=h;exact⟨s,t,h1,h2.isC,h3.isC⟩
theorem rqsame3_calls(v u:Value)(b c:Bool)(xs ys xs2 ys2:List Nat)(w:World)(hv:RawQ w v b xs ys)(hu:RawQ w u c xs2 ys2):
  Calls Tryz.prog 58 #[v,u] w fun e w'=>e= .returned (.bool (decide ((b=c∧xs=xs2)∧ys=ys2)))∧Ext w w':=by
 obtain⟨s,t,rfl,hs,ht⟩:=hv;obtain⟨s2,t2,rfl,hs2,ht2⟩:=hu;have r1:RawI w (.agg #[.bool b,s]) b xs:=⟨s,rfl,hs⟩;have r2:RawI w (.agg #[.bool c,s2]) c xs2:=⟨s2,rfl,hs2⟩
 go_enter Tryz.func58,Tryz.ntmps58
 obtain⟨w1,hw1,e1,b1,b2,s1⟩:=alloc2 w #[.bool b,s,t] #[.bool c,s2,t2] 41 41;have hc0:=b1.cell 0;have hc1:=b1.cell 1;have hc2:=b1.cell 2;have hd0:=b2.cell 0;have hd1:=b2.cell 1;have hd2:=b2.cell 2;rw[hw1]at hc0 hc1 hc2 hd0 hd1 hd2;go_wp2_with fail;rw[←hw1];clear hc0 hc1 hc2 hd0 hd1 hd2;refine(zsame2_calls _ _ b c xs xs2 _ (r1.ext e1) (r2.ext e1)).mono ?_;rintro e w2 ⟨rfl,e2⟩;have hc2:=(b1.ext e2).cell 2;have hd2:=(b2.ext e2).cell 2
 by_cases h:b=c∧xs=xs2
 ·have hdec:decide (b=c∧xs=xs2)=true:=decide_eq_true h
  rw[hdec];go_wp2_with fail;refine(rsame_calls _ _ ys ys2 _ (ht.ext (e1.trans e2)) (ht2.ext (e1.trans e2))).mono ?_;rintro e w3 ⟨rfl,e3⟩;go_wp2;go_ret;exact⟨by simp[h],(e1.trans e2).trans e3⟩
 ·have hdec:decide (b=c∧xs=xs2)=false:=decide_eq_false h
  rw[hdec];go_wp2;go_ret;exact⟨by rw[decide_eq_false (fun hh=>h hh.1)];rfl,e1.trans e2⟩
theorem rqwords3_calls(v:Value)(b:Bool)(xs ys:List Nat)(w:World)(hv:RawQ w v b xs ys)(hlen:xs.length+ys.length≤9223372036854775807):
  Calls Tryz.prog 89 #[v] w fun e w'=>e= .returned (.int .i64 ((xs.length+ys.length:Nat):Int))∧Ext w w':=by
 obtain⟨s,t,rfl,hs,ht⟩:=hv;obtain⟨ad,cap,rfl,_,_,_⟩:=hs;obtain⟨ad2,cap2,rfl,_,_,_⟩:=ht
 go_enter Tryz.func89,Tryz.ntmps89
 go_wp2;go_ret;exact⟨by rfl,(Ext.refl w).alloc _⟩
end Go.Proofs.YtbmnlaepfckmkaaGreat
