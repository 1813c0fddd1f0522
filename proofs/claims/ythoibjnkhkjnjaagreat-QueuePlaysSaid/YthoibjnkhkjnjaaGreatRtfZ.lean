/-
 The document's fractions, walked (IV): rounding; sameness, copies, sizes of fractions as they are handed in; a result's memory written over.
-/
import Derived.Test.YthoibjnkhkjnjaaGreatRteZ
namespace Go.Proofs.YthoibjnkhkjnjaaGreat
set_option maxRecDepth 100000
set_option maxHeartbeats 1000000
open Go.RowKit
set_option linter.unusedVariables false
set_option linter.unusedSimpArgs false
theorem og_guard{P:Program}{o:Oper}{a:Act}{f:Nat→Value}{w:World}{R:World→World→Prop}{p:Value→World→Prop}{j:Nat}{want:Bool}(hg:o.guard=some (j,want))(hj:f j= .bool want)(h:OpGoal P {o with guard:=none} a f w R p):OpGoal P o a f w R p:=by
 cases o with
 |mk dst op type pos after guard=>
  subst hg;exact⟨fun _=>h,fun hn=>absurd hj hn⟩
def RawQ(w:World)(v:Value)(b:Bool)(xs ys:List Nat):Prop:=∃s t,v= .agg #[.bool b,s,t]∧IsL .u64 w s xs∧IsL .u64 w t ys
theorem RawQ.ext{w w':World}{v:Value}{b:Bool}{xs ys:List Nat}(h:RawQ w v b xs ys)(he:Ext w w'):RawQ w' v b xs ys:=by
 obtain⟨s,t,h1,h2,h3⟩:=h;exact⟨s,t,h1,h2.ext he,h3.ext he⟩
theorem FrQ.raw{B0:Nat}{w:World}{v:Value}{q:Rat}(h:FrQ B0 w v q):RawQ w v (decide (q.num<0)) (dg W q.num.natAbs) (dg W q.den):=by
 obtain⟨s,t,h1,h2,h3⟩:=h;exact⟨s,t,h1,h2.isC,h3.isC⟩
theorem zeroQ.raw(w:World):RawQ w zeroQ false [] []:=⟨_,_,rfl,⟨none,0,rfl,Nat.le_refl _,by omega,Rd.nil _ _⟩,⟨none,0,rfl,Nat.le_refl _,by omega,Rd.nil _ _⟩⟩
def FrR(B0:Nat)(w:World)(v:Value)(b:Bool)(xs ys:List Nat):Prop:=∃s t,v= .agg #[.bool b,s,t]∧FrL 61 .u64 B0 w s xs∧FrL 61 .u64 B0 w t ys
theorem FrR.raw{B0:Nat}{w:World}{v:Value}{b:Bool}{xs ys:List Nat}(h:FrR B0 w v b xs ys):RawQ w v b xs ys:=by
 obtain⟨s,t,h1,h2,h3⟩:=h;exact⟨s,t,h1,h2.isL,h3.isL⟩
theorem FrR.ext{B0:Nat}{w w':World}{v:Value}{b:Bool}{xs ys:List Nat}(h:FrR B0 w v b xs ys)(he:Ext w w'):FrR B0 w' v b xs ys:=by
 obtain⟨s,t,h1,h2,h3⟩:=h;exact⟨s,t,h1,h2.ext he,h3.ext he⟩
theorem FrR.chg{B0 g:Nat}{w w':World}{v:Value}{b:Bool}{xs ys:List Nat}(h:FrR B0 w v b xs ys)(he:Chg g w w')(hg:g<B0):FrR B0 w' v b xs ys:=by
 obtain⟨s,t,h1,h2,h3⟩:=h;exact⟨s,t,h1,h2.chg he hg,h3.chg he hg⟩
theorem FrR.mono{B0 B1:Nat}{w:World}{v:Value}{b:Bool}{xs ys:List Nat}(h:FrR B0 w v b xs ys)(hB:B1≤B0):FrR B1 w v b xs ys:=by
 obtain⟨s,t,h1,h2,h3⟩:=h;exact⟨s,t,h1,h2.mono hB,h3.mono hB⟩
def PP.frR{S:Nat}(b:Bool)(xs ys:List Nat):PP S:=⟨false,fun u w=>FrR S w u b xs ys,fun _ _ _ h hp=>hp.ext h,fun _ _ hg _ _ _ h hp=>hp.chg h hg⟩
theorem rqsame3_calls(v u:Value)(b c:Bool)(xs ys xs2 ys2:List Nat)(w:World)(hv:RawQ w v b xs ys)(hu:RawQ w u c xs2 ys2):
  Calls Tryz.prog 20 #[v,u] w fun e w'=>e= .returned (.bool (decide ((b=c∧xs=xs2)∧ys=ys2)))∧Ext w w':=by
 obtain⟨s,t,rfl,hs,ht⟩:=hv;obtain⟨s2,t2,rfl,hs2,ht2⟩:=hu;have r1:RawI w (.agg #[.bool b,s]) b xs:=⟨s,rfl,hs⟩;have r2:RawI w (.agg #[.bool c,s2]) c xs2:=⟨s2,rfl,hs2⟩
 go_enter Tryz.func20,Tryz.ntmps20
 obtain⟨w1,hw1,e1,b1,b2,s1⟩:=alloc2 w #[.bool b,s,t] #[.bool c,s2,t2] 36 36;have hc0:=b1.cell 0;have hc1:=b1.cell 1;have hc2:=b1.cell 2;have hd0:=b2.cell 0;have hd1:=b2.cell 1;have hd2:=b2.cell 2;rw[hw1]at hc0 hc1 hc2 hd0 hd1 hd2;go_wp2_with fail;rw[←hw1];clear hc0 hc1 hc2 hd0 hd1 hd2;refine(zsame2_calls _ _ b c xs xs2 _ (r1.ext e1) (r2.ext e1)).mono ?_;rintro e w2 ⟨rfl,e2⟩;have hc2:=(b1.ext e2).cell 2;have hd2:=(b2.ext e2).cell 2
 by_cases h:b=c∧xs=xs2
 ·have hdec:decide (b=c∧xs=xs2)=true:=decide_eq_true h
  rw[hdec];go_wp2_with fail;refine(rsame_calls _ _ ys ys2 _ (ht.ext (e1.trans e2)) (ht2.ext (e1.trans e2))).mono ?_;rintro e w3 ⟨rfl,e3⟩;go_wp2;go_ret;exact⟨by simp[h],(e1.trans e2).trans e3⟩
 ·have hdec:decide (b=c∧xs=xs2)=false:=decide_eq_false h
  rw[hdec];go_wp2;go_ret;exact⟨by rw[decide_eq_false (fun hh=>h hh.1)];rfl,e1.trans e2⟩
theorem rqcopy3_calls(v:Value)(b:Bool)(xs ys:List Nat)(w:World)(hv:RawQ w v b xs ys)(hlen:xs.length≤8796093022208)(hlen2:ys.length≤8796093022208):
  Calls Tryz.prog 7 #[v] w fun e w'=>∃v',e= .returned v'∧FrR w.heap.size w' v' b xs ys∧Ext w w':=by
 obtain⟨s,t,rfl,hs,ht⟩:=hv;have r1:RawI w (.agg #[.bool b,s]) b xs:=⟨s,rfl,hs⟩
 go_enter Tryz.func7,Tryz.ntmps7
 go_wp2_with fail;obtain⟨w1,hw1,e1,b1,b2,s1⟩:=alloc2 w #[.bool b,s,t] #[.bool false,.slice none 0 0,.slice none 0 0] 36 36;rw[←hw1];clear hw1;refine wpP [⟨7,(w.heap.size+1),36,PP.frR b xs ys⟩] [PP.val (.pointer (some ⟨w.heap.size,0,none⟩)),PP.val (.agg #[.bool b,s]),PP.frI b xs,PP.val (.pointer (some ⟨w.heap.size,2,none⟩)),PP.val (t),PP.frLw ys,PP.frR b xs ys,PP.any] [] [7,6,5,4,3,2,1,0] ?_ ?_ ?_ ?_ ?_
 ·intro x hx;simp only[List.mem_singleton]at hx;subst hx;exact⟨by show(w.heap.size+1)<w1.heap.size;omega,rfl⟩
 ·intro x hx;simp only[List.mem_singleton]at hx;subst hx;rfl
 ·intro x hx y hy h;simp only[List.mem_singleton]at hx hy;subst hx hy;exact absurd rfl h
 ·refine⟨?_,?_,?_,?_,?_,?_,?_,?_,trivial⟩
  ·intro f w2 hG hp hl;simp only[OpGoal];go_simp;exact⟨_,rfl,Ext.refl _,rfl⟩
  ·intro f w2 hG hp hl;have hE:Ext w1 w2:=hG;have q3:=tE hp 0 0 rfl rfl rfl;have hbx:=b1.ext hE;have hcell0:=hbx.cell 0;have hcell1:=hbx.cell 1;have hcell2:=hbx.cell 2;simp only[OpGoal];go_simp;exact⟨_,rfl,Ext.refl _,rfl⟩
  ·intro f w2 hG hp hl;have hE:Ext w1 w2:=hG;have hS:=hE.size;have q4:=tE hp 0 1 rfl rfl rfl;change OpGoal _ _ _ f w2 Ext _;refine oC #[f 1] Tryz.func22 rfl rfl ?_;rw[q4];refine(zcopy2_calls _ b xs _ (r1.ext (e1.trans hE)) hlen).mono ?_;rintro e w' ⟨v',rfl,⟨s',h0,h1⟩,h2⟩;exact⟨v',rfl,h2,s',h0,h1.mono hS⟩
  ·intro f w2 hG hp hl;simp only[OpGoal];go_simp;exact⟨_,rfl,Ext.refl _,rfl⟩
  ·intro f w2 hG hp hl;have hE:Ext w1 w2:=hG;have q6:=tE hp 0 3 rfl rfl rfl;have hcell:=(b1.ext hE).cell 2;simp only[OpGoal];go_simp;exact⟨_,rfl,Ext.refl _,rfl⟩
  ·intro f w2 hG hp hl;have hE:Ext w1 w2:=hG;have hS:=hE.size;have q7:=tE hp 0 4 rfl rfl rfl;change OpGoal _ _ _ f w2 Ext _;refine oC #[f 4] Tryz.func23 rfl rfl ?_;rw[q7];refine(rcopy_calls _ ys _ (ht.ext (e1.trans hE)) hlen2).mono ?_;rintro e w' ⟨v',rfl,h1,h2⟩;exact⟨v',rfl,h2,h1.mono hS⟩
  ·intro f w2 hG hp hl;have hE:Ext w1 w2:=hG;have q5:=tellV hp 0 2 rfl rfl (fun _=>hE);have q8:=tellV hp 1 5 rfl rfl (fun _=>hE);obtain⟨s',hv,hn⟩:=q5;obtain⟨ad,cap,rfl⟩:=hn.slice;obtain⟨ad2,cap2,hv2⟩:=FrL.slice q8;simp only[OpGoal];go_simp;exact⟨_,rfl,Ext.refl _,_,_,rfl,hn,hv2▸q8⟩
  ·intro f w2 hG hp hl;have hE:Ext w1 w2:=hG;have hS:=hE.size;have q9:=tellV hp 0 6 rfl rfl (fun _=>hE);intro hg0;change OpGoal _ _ _ f w2 (Chg _) _;obtain⟨s',t',hv,hn,hm⟩:=q9;obtain⟨ad,cap,rfl⟩:=hn.slice;obtain⟨ad2,cap2,rfl⟩:=hm.slice;exact og_store (P:=Tryz.prog) _ _ _ (w.heap.size+1) _ _ _ (PP.frR _ _ _:PP _).p rfl rfl rfl hv (show Bx 36 w2 _ _ from hg0.trans b2) (by kernel_rfl) rfl (all3 rfl rfl rfl) (fun w' h=>⟨_,_,rfl,hn.chg h (by omega),hm.chg h (by omega)⟩)
 ·intro f w2 hG hp;obtain⟨cs0,hbx0,hz0⟩:∃cs,Bx 36 w2 (w.heap.size+1) cs∧(PP.frR b xs ys:PP w1.heap.size).p (.agg cs) w2:=endS hp 7 (by decide);clear hp;obtain⟨s',t',hv,hn,hm⟩:=hz0
  cases hv
  go_wp2;refine ret_box 2 36 (w.heap.size+1) 36 _ _ (by kernel_rfl) rfl hbx0 Tryz.underlying36 rfl (by kernel_rfl) rfl ?_;exact⟨_,rfl,⟨_,_,rfl,FrL.mono hn (by omega),FrL.mono hm (by omega)⟩,e1.stepS hG (by simp)⟩
theorem rqwords3_calls(v:Value)(b:Bool)(xs ys:List Nat)(w:World)(hv:RawQ w v b xs ys)(hlen:xs.length+ys.length≤9223372036854775807):
  Calls Tryz.prog 6 #[v] w fun e w'=>e= .returned (.int .i64 ((xs.length+ys.length:Nat):Int))∧Ext w w':=by
 obtain⟨s,t,rfl,hs,ht⟩:=hv;obtain⟨ad,cap,rfl,_,_,_⟩:=hs;obtain⟨ad2,cap2,rfl,_,_,_⟩:=ht
 go_enter Tryz.func6,Tryz.ntmps6
 go_wp2;go_ret;exact⟨by rfl,(Ext.refl w).alloc _⟩
end Go.Proofs.YthoibjnkhkjnjaaGreat
