/-
 Constraints: the document's form, whether a sum is kept, whether numbers keep one, whether one is bare, false, whether two are alike, whether terms are whole (cutwaterref11).
-/
import Derived.Test.YtokfaggcojokgaaGreatCngZ
namespace Go.Proofs.YtokfaggcojokgaaGreat
set_option maxRecDepth 100000
set_option maxHeartbeats 1000000
open Go.RowKit
set_option linter.unusedVariables false
set_option linter.unusedSimpArgs false
theorem sense11_calls(s:Int)(w:World):
  Calls Tryz.prog 33 #[.int .i64 s] w fun e w'=>e= .returned (.bool (sens s))∧Ext w w':=by
 by_cases h1:0<s
 ·by_cases h2:s<4
  ·have HS:=Lib.hid (show sens s=true from sens_iff.2 ⟨by omega,by omega⟩)
   go_enter Tryz.func33,Tryz.ntmps33
   go_wp2;go_ret
   exact⟨by rw[HS.out]<;>rfl,Ext.refl _⟩
  ·have HS:=Lib.hid (sens_no (s:=s) fun h=>by omega)
   go_enter Tryz.func33,Tryz.ntmps33
   go_wp2;go_ret
   exact⟨by rw[HS.out]<;>rfl,Ext.refl _⟩
 ·have HS:=Lib.hid (sens_no (s:=s) fun h=>by omega)
  go_enter Tryz.func33,Tryz.ntmps33
  go_wp2;go_ret
  exact⟨by rw[HS.out]<;>rfl,Ext.refl _⟩
theorem CQ.opn{w:World}{v:Value}{q:Rat}(h:CQ w v q):∃b ad l cap ad2 l2 cap2,v= .agg #[.bool b,.slice ad l cap,.slice ad2 l2 cap2]:=by
 obtain⟨s,t,rfl,h1,h2⟩:=h;obtain⟨a1,c1,rfl⟩:=h1.slice;obtain⟨a2,c2,rfl⟩:=h2.slice;exact⟨_,_,_,_,_,_,_,rfl⟩
set_option maxHeartbeats 4000000 in
theorem form11_calls(k K:Nat)(v:Value)(c:CR)(w:World)(hv:CnR k w v c)(hn:c.2.1.length≤1000)(hk:k≤1000000)(hK:c.2.1.length*(k+1)+1≤K)(hK2:k≤K):
  Calls Tryz.prog 37 #[v] w fun e w'=>∃v',e= .returned v'∧CnO w.heap.size K w' v' (formC c)∧Ext w w':=by
 obtain⟨s,l,x⟩:=c
 simp only at hn hK
 unfold formC
 simp only
 obtain⟨a,n,p,b,a1,n1,c1,a2,n2,c2,rfl,ht,hr⟩:=hv.op;have HT:=Lib.hid ht;have HR:=Lib.hid hr;clear ht hr;have hz:=HR.out.sz;have hz5:=szD_of hz;have HZ:=Lib.hid hz;clear hz
 go_enter Tryz.func37,Tryz.ntmps37
 go_wp2_with fail;obtain⟨w1,hw1,e1,b1,b2,s1⟩:=alloc2 w #[.int .i64 s,.slice a n p,.bool b,.slice a1 n1 c1,.slice a2 n2 c2] #[.int .i64 0,.slice none 0 0,.bool false,.slice none 0 0,.slice none 0 0] 36 36;rw[←hw1];clear hw1;refine wpP [⟨10,(w.heap.size+1),36,PP.cnO K (s,mkV l,x)⟩] [PP.val (.pointer (some ⟨w.heap.size,0,none⟩)),PP.val (.int .i64 s),PP.val (.pointer (some ⟨w.heap.size,1,none⟩)),PP.val (.slice a n p),PP.tO K (mkV l),PP.val (.pointer (some ⟨w.heap.size,2,none⟩)),PP.val (.agg #[.bool b,.slice a1 n1 c1,.slice a2 n2 c2]),PP.frQd x,PP.frQ x,PP.cnO K (s,mkV l,x),PP.any] [] [10,9,8,7,6,5,4,3,2,1,0] ?_ ?_ ?_ ?_ ?_
 ·intro x hx;simp only[List.mem_singleton]at hx;subst hx;exact⟨by show(w.heap.size+1)<w1.heap.size;omega,rfl⟩
 ·intro x hx;simp only[List.mem_singleton]at hx;subst hx;rfl
 ·intro x hx y hy h;simp only[List.mem_singleton]at hx hy;subst hx hy;exact absurd rfl h
 ·refine⟨?_,?_,?_,?_,?_,?_,?_,?_,?_,?_,?_,trivial⟩
  ·intro f w2 hG hp hl;simp only[OpGoal];go_simp;exact⟨_,rfl,Ext.refl _,rfl⟩
  ·intro f w2 hG hp hl;have hE:Ext w1 w2:=hG;have q3:=tE hp 0 0 rfl rfl rfl;have hcell:=(b1.ext hE).cell 0;simp only[OpGoal];go_simp;exact⟨_,rfl,Ext.refl _,rfl⟩
  ·intro f w2 hG hp hl;simp only[OpGoal];go_simp;exact⟨_,rfl,Ext.refl _,rfl⟩
  ·intro f w2 hG hp hl;have hE:Ext w1 w2:=hG;have q5:=tE hp 0 2 rfl rfl rfl;have hcell:=(b1.ext hE).cell 1;simp only[OpGoal];go_simp;exact⟨_,rfl,Ext.refl _,rfl⟩
  ·intro f w2 hG hp hl;have hE:Ext w1 w2:=hG;have hS:=hE.size;have q6:=tE hp 0 3 rfl rfl rfl;change OpGoal _ _ _ f w2 Ext _;refine oC #[f 3] Tryz.func99 rfl rfl ?_;rw[q6];refine(make5_calls k _ l _ (HT.out.ext (e1.trans hE)) hk hn).mono ?_;rintro e w' ⟨v',rfl,h1,h2⟩;exact⟨v',rfl,h2,(h1.le hK).mono hS⟩
  ·intro f w2 hG hp hl;simp only[OpGoal];go_simp;exact⟨_,rfl,Ext.refl _,rfl⟩
  ·intro f w2 hG hp hl;have hE:Ext w1 w2:=hG;have q8:=tE hp 0 5 rfl rfl rfl;have hbx:=b1.ext hE;have hcell0:=hbx.cell 0;have hcell1:=hbx.cell 1;have hcell2:=hbx.cell 2;have hcell3:=hbx.cell 3;have hcell4:=hbx.cell 4;simp only[OpGoal];go_simp;exact⟨_,rfl,Ext.refl _,rfl⟩
  ·intro f w2 hG hp hl;have hE:Ext w1 w2:=hG;have hS:=hE.size;have q9:=tE hp 0 6 rfl rfl rfl;change OpGoal _ _ _ f w2 Ext _;refine oC #[f 6] Tryz.func55 rfl rfl ?_;rw[q9];refine(rqofR_calls _ x k _ (HR.out.ext (e1.trans hE)) hk).mono ?_;rintro e w' ⟨v',rfl,h1,h2⟩;exact⟨v',rfl,h2,h1.mono hS⟩
  ·intro f w2 hG hp hl;have hE:Ext w1 w2:=hG;have hS:=hE.size;have q10:=tellV hp 0 7 rfl rfl (fun _=>hE);change OpGoal _ _ _ f w2 Ext _;refine oC #[f 7] Tryz.func59 rfl rfl ?_;refine(rqto3_calls _ x _ q10.cq (by omega)).mono ?_;rintro e w' ⟨v',rfl,h1,h2⟩;exact⟨v',rfl,h2,h1.mono hS⟩
  ·intro f w2 hG hp hl;have hE:Ext w1 w2:=hG;have q4:=tE hp 0 1 rfl rfl rfl;have q7:=tellV hp 1 4 rfl rfl (fun _=>hE);have q11:=tellV hp 2 8 rfl rfl (fun _=>hE);obtain⟨ad,cap,hv⟩:=TO.val q7;obtain⟨s',t',hv2,hn2,hm2⟩:=q11;obtain⟨ad1,cap1,hv3⟩:=FrN.slice hn2;obtain⟨ad2,cap2,hv4⟩:=FrN.slice hm2;subst hv3 hv4;simp only[OpGoal];go_simp;exact⟨_,rfl,Ext.refl _,_,_,_,_,_,_,_,_,_,_,rfl,hv▸q7,⟨_,_,rfl,hn2,hm2⟩,Nat.le_trans HZ.out hK2⟩
  ·intro f w2 hG hp hl;have hE:Ext w1 w2:=hG;have hS:=hE.size;have q12:=tellV hp 0 9 rfl rfl (fun _=>hE);intro hg0;change OpGoal _ _ _ f w2 (Chg _) _;obtain⟨a',n',p',b',a1',n1',c1',a2',n2',c2',hv,ht,hq,hz⟩:=q12;exact og_store (P:=Tryz.prog) _ _ _ (w.heap.size+1) _ _ _ (PP.cnO K (s,mkV l,x):PP _).p rfl rfl rfl hv (show Bx 36 w2 _ _ from hg0.trans b2) (by kernel_rfl) rfl (all5 rfl rfl rfl rfl rfl) (fun w' h=>⟨a',n',p',b',a1',n1',c1',a2',n2',c2',rfl,ht.chg h (by omega),hq.chg h (by omega),hz⟩)
 ·intro f w2 hG hp;obtain⟨cs0,hbx0,hz0⟩:∃cs,Bx 36 w2 (w.heap.size+1) cs∧(PP.cnO K (s,mkV l,x):PP w1.heap.size).p (.agg cs) w2:=endS hp 10 (by decide);clear hp;have hz1:=hz0.mono (show w.heap.size≤_ by omega);obtain⟨a',n',p',b',a1',n1',c1',a2',n2',c2',hvv,hnn,hmm,hzz⟩:=hz0
  cases hvv
  go_wp2;refine ret_box 2 36 (w.heap.size+1) 36 _ _ (by kernel_rfl) rfl hbx0 Tryz.underlying36 rfl (by kernel_rfl) rfl ?_;exact⟨_,rfl,hz1,e1.stepS hG (by simp)⟩
set_option maxHeartbeats 4000000 in
theorem kept11_calls(k K:Nat)(v u:Value)(c:CR)(aq:Rat)(w:World)(hv:CnR k w v c)(hu:CQ w u aq)(hk:k≤1000000)(ha:szD aq≤K)(hK:K≤1000000000):
  Calls Tryz.prog 93 #[v,u] w fun e w'=>e= .returned (.bool (keptQ c.1 aq c.2.2))∧Ext w w':=by
 obtain⟨s,l,x⟩:=c
 simp only
 obtain⟨a,n,p,b,a1,n1,c1,a2,n2,c2,rfl,ht,hr⟩:=hv.op;have HT:=Lib.hid ht;have HR:=Lib.hid hr;clear ht hr;obtain⟨d,d1,m1,e1',d2,m2,e2',rfl⟩:=hu.opn;have HU:=Lib.hid hu;have hz5:=szD_of HR.out.sz;clear hu;obtain⟨w1,hw1,e1,b1_,b2_,s1⟩:=alloc2 w #[.int .i64 s,.slice a n p,.bool b,.slice a1 n1 c1,.slice a2 n2 c2] #[.bool d,.slice d1 m1 e1',.slice d2 m2 e2'] 36 81
 go_enter Tryz.func93,Tryz.ntmps93
 go_wp2_with fail;rw[←hw1];have HKK:=Lib.hid (keptI_eq s aq x);obtain⟨o,ho⟩:∃o,o=cmpR aq x:=⟨_,rfl⟩;rw[←ho]at HKK;have HO:=Lib.hid ho;clear hw1 ho;refine wpQ [PP.val (.agg #[.bool d,.slice d1 m1 e1',.slice d2 m2 e2']),PP.val (.pointer (some ⟨w.heap.size,2,none⟩)),PP.val (.agg #[.bool b,.slice a1 n1 c1,.slice a2 n2 c2]),PP.frQd x,PP.val (.int .i64 o),PP.val (.int .i64 o)] [] [0,1,2,3,4,5] ?_ ?_
 ·refine⟨?_,?_,?_,?_,?_,?_,trivial⟩
  ·intro f w2 hG hp hl;have hE:Ext w1 w2:=hG;change OpGoal _ _ _ f w2 Ext _;exact og_load (P:=Tryz.prog) _ _ (w.heap.size+1) _ _ _ rfl rfl rfl (b2_.ext hE) Tryz.underlying81 rfl (by kernel_rfl) rfl
  ·intro f w2 hG hp hl;simp only[OpGoal];go_simp;exact⟨_,rfl,Ext.refl _,rfl⟩
  ·intro f w2 hG hp hl;have hE:Ext w1 w2:=hG;have q7:=tE hp 0 1 rfl rfl rfl;have hbx:=b1_.ext hE;have hcell0:=hbx.cell 0;have hcell1:=hbx.cell 1;have hcell2:=hbx.cell 2;have hcell3:=hbx.cell 3;have hcell4:=hbx.cell 4;simp only[OpGoal];go_simp;exact⟨_,rfl,Ext.refl _,rfl⟩
  ·intro f w2 hG hp hl;have hE:Ext w1 w2:=hG;have hS:=hE.size;have q8:=tE hp 0 2 rfl rfl rfl;change OpGoal _ _ _ f w2 Ext _;refine oC #[f 2] Tryz.func55 rfl rfl ?_;rw[q8];refine(rqofR_calls _ x k _ (HR.out.ext (e1.trans hE)) hk).mono ?_;rintro e w' ⟨v',rfl,h1,h2⟩;exact⟨v',rfl,h2,h1.mono hS⟩
  ·intro f w2 hG hp hl;have hE:Ext w1 w2:=hG;have hS:=hE.size;have q6:=tE hp 0 0 rfl rfl rfl;have q9:=tellV hp 1 3 rfl rfl (fun _=>hE);change OpGoal _ _ _ f w2 Ext _;refine oC #[f 0,f 3] Tryz.func53 rfl rfl ?_;rw[q6];refine(rqcmp3_calls _ _ aq x K (5*k) _ (HU.out.ext (e1.trans hE)) q9.cq ha hz5 (by omega)).mono ?_;rintro e w' ⟨rfl,h2⟩
   exact⟨_,rfl,h2,by rw[HO.out]<;>rfl⟩
  ·intro f w2 hG hp hl;have q10:=tE hp 0 4 rfl rfl rfl;exact⟨_,rfl,Ext.refl _,q10⟩
 ·intro f w2 hG hp;have hE:Ext w1 w2:=ChgS.nil hG
  have q5:f 5= .int .i64 o:=endV hp 5 (by decide) rfl (fun h=>by cases h)
  try simp only[q5]
  clear hp;have X:=e1.trans hE;have hb:=b1_.ext hE;have hb0:=hb.cell 0;clear b1_ b2_ hE e1
  by_cases h1:s=1
  ·subst h1;have HI:=Lib.hid (show keptI 1 o=decide (o≤0)from rfl)
   by_cases ho:o≤0
   ·go_wp2;go_ret
    exact⟨by rw[←HKK.out,HI.out,decide_eq_true ho]<;>rfl,X⟩
   ·go_wp2;go_ret
    exact⟨by rw[←HKK.out,HI.out,decide_eq_false (show¬o≤0 by omega)]<;>rfl,X⟩
  by_cases h2:s=2
  ·subst h2;have HI:=Lib.hid (show keptI 2 o=decide (0≤o)from rfl)
   by_cases ho:0≤o
   ·go_wp2;go_ret
    exact⟨by rw[←HKK.out,HI.out,decide_eq_true ho]<;>rfl,X⟩
   ·go_wp2;go_ret
    exact⟨by rw[←HKK.out,HI.out,decide_eq_false (show¬0≤o by omega)]<;>rfl,X⟩
  by_cases h3:s=3
  ·subst h3;have HI:=Lib.hid (show keptI 3 o=(o==0)from rfl);go_wp2;go_ret
   exact⟨by rw[←HKK.out,HI.out]<;>rfl,X⟩
  have HI:=Lib.hid (show keptI s o=false by unfold keptI;rw[if_neg h1,if_neg h2,if_neg h3])
  have g1:(s==1)=false:=by simpa using h1
  have g2:(s==2)=false:=by simpa using h2
  have g3:(s==3)=false:=by simpa using h3
  go_wp2;go_ret
  exact⟨by rw[←HKK.out,HI.out]<;>rfl,X⟩
set_option maxHeartbeats 4000000 in
theorem holds11_calls(k:Nat)(v u:Value)(c:CR)(xs:List Rat)(w:World)(hv:CnR k w v c)(hx:QL k w u xs)(hk:k≤1000)(hn:c.2.1.length≤1000)(hnx:xs.length≤1000):
  Calls Tryz.prog 40 #[v,u] w fun e w'=>e= .returned (.bool (holdsC c xs))∧Ext w w':=by
 obtain⟨s,l,x⟩:=c
 simp only at hn
 unfold holdsC
 simp only
 obtain⟨a,n,p,b,a1,n1,c1,a2,n2,c2,rfl,ht,hr⟩:=hv.op;have HT:=Lib.hid ht;have HR:=Lib.hid hr;clear ht hr;have HX:=Lib.hid hx;have hz:=szD_of (sz_dot HT.out.szs hx.szs);have hm:l.length*(k+k+1)≤1000*2001:=Nat.mul_le_mul hn (by omega);have HZ:=Lib.hid (show szD (dotV l xs)≤100000000 by omega);clear hx hz hm;obtain⟨w1,hw1,e1,b1_,s1⟩:=alloc1 w #[.int .i64 s,.slice a n p,.bool b,.slice a1 n1 c1,.slice a2 n2 c2] 36
 go_enter Tryz.func40,Tryz.ntmps40
 go_wp2_with fail;rw[←hw1];clear hw1;refine wpQ [PP.val (.agg #[.int .i64 s,.slice a n p,.bool b,.slice a1 n1 c1,.slice a2 n2 c2]),PP.val (.pointer (some ⟨w.heap.size,1,none⟩)),PP.val (.slice a n p),PP.val (u),PP.frQd (dotV l xs),PP.val (.bool (keptQ s (dotV l xs) x)),PP.val (.bool (keptQ s (dotV l xs) x))] [] [0,1,2,3,4,5,6] ?_ ?_
 ·refine⟨?_,?_,?_,?_,?_,?_,?_,trivial⟩
  ·intro f w2 hG hp hl;have hE:Ext w1 w2:=hG;change OpGoal _ _ _ f w2 Ext _;exact og_load (P:=Tryz.prog) _ _ w.heap.size _ _ _ rfl rfl rfl (b1_.ext hE) Tryz.underlying36 rfl (by kernel_rfl) rfl
  ·intro f w2 hG hp hl;simp only[OpGoal];go_simp;exact⟨_,rfl,Ext.refl _,rfl⟩
  ·intro f w2 hG hp hl;have hE:Ext w1 w2:=hG;have q6:=tE hp 0 1 rfl rfl rfl;have hcell:=(b1_.ext hE).cell 1;simp only[OpGoal];go_simp;exact⟨_,rfl,Ext.refl _,rfl⟩
  ·intro f w2 hG hp hl;simp only[OpGoal];go_simp;exact⟨_,rfl,Ext.refl _,rfl⟩
  ·intro f w2 hG hp hl;have hE:Ext w1 w2:=hG;have hS:=hE.size;have q7:=tE hp 0 2 rfl rfl rfl;have q8:=tE hp 1 3 rfl rfl rfl;change OpGoal _ _ _ f w2 Ext _;refine oC #[f 2,f 3] Tryz.func54 rfl rfl ?_;rw[q7,q8];refine(dot5_calls k _ _ l xs _ (HT.out.ext (e1.trans hE)) (HX.out.ext (e1.trans hE)) hk hn hnx).mono ?_;rintro e w' ⟨v',rfl,h1,h1b,h2⟩;exact⟨v',rfl,h2,h1.mono hS⟩
  ·intro f w2 hG hp hl;have hE:Ext w1 w2:=hG;have hS:=hE.size;have q5:=tE hp 0 0 rfl rfl rfl;have q9:=tellV hp 1 4 rfl rfl (fun _=>hE);change OpGoal _ _ _ f w2 Ext _;refine oC #[f 0,f 4] Tryz.func93 rfl rfl ?_;rw[q5];refine(kept11_calls k 100000000 _ _ (s,l,x) (dotV l xs) _ (CnR.mk' (HT.out.ext (e1.trans hE)) (HR.out.ext (e1.trans hE))) q9.cq (by omega) HZ.out (by omega)).mono ?_;rintro e w' ⟨rfl,h2⟩;exact⟨_,rfl,h2,rfl⟩
  ·intro f w2 hG hp hl;have q10:=tE hp 0 5 rfl rfl rfl;exact⟨_,rfl,Ext.refl _,q10⟩
 ·intro f w2 hG hp;have hE:Ext w1 w2:=ChgS.nil hG
  have q4:f 6= .bool (keptQ s (dotV l xs) x):=endV hp 6 (by decide) rfl (fun h=>by cases h)
  try simp only[q4]
  clear hp;have X:=e1.trans hE;obtain⟨pp,hpp⟩:∃pp,pp=keptQ s (dotV l xs) x:=⟨_,rfl⟩;rw[←hpp];have HP:=Lib.hid hpp;clear hpp;go_wp2;go_ret
  exact⟨by rw[←HP.out]<;>rfl,X⟩
set_option maxHeartbeats 4000000 in
theorem bare11_calls(k:Nat)(v:Value)(c:CR)(w:World)(hv:CnR k w v c)(hk:k≤1000000)(hn:c.2.1.length≤1000):
  Calls Tryz.prog 70 #[v] w fun e w'=>e= .returned (.bool (bareC c))∧Ext w w':=by
 obtain⟨s,l,x⟩:=c
 simp only at hn
 obtain⟨a,n,p,b,a1,n1,c1,a2,n2,c2,rfl,ht,hr⟩:=hv.op;have HT:=Lib.hid ht;have HR:=Lib.hid hr;clear ht hr;obtain⟨q,hq⟩:∃q,q=(mkV l).length:=⟨_,rfl⟩
 have HB:Hid (bareC (s,l,x)=((q:Int)==0)):=Lib.hid (len_zero hq).symm
 have HQ:=Lib.hid hq;clear hq;obtain⟨w1,hw1,e1,b1_,s1⟩:=alloc1 w #[.int .i64 s,.slice a n p,.bool b,.slice a1 n1 c1,.slice a2 n2 c2] 36
 go_enter Tryz.func70,Tryz.ntmps70
 go_wp2_with fail;rw[←hw1];refine(make5_calls k _ l w1 (HT.out.ext e1) hk hn).mono ?_;rintro e w2 ⟨v2,rfl,hto,e2⟩;obtain⟨ad,cap,rfl⟩:=hto.val;rw[←HQ.out];obtain⟨c0,hc0⟩:∃c,c=((q:Int)==0):=⟨_,rfl⟩;rw[←hc0]at HB;have hcc:=hc0.symm;clear hto hw1 hc0;go_wp2;go_ret
 exact⟨by rw[HB.out]<;>rfl,e1.trans e2⟩
set_option maxHeartbeats 8000000 in
theorem false11_calls(k:Nat)(v:Value)(a:CR)(w:World)(hv:CnR k w v a)(hk:k≤1000000)(hn:a.2.1.length≤1000):
  Calls Tryz.prog 32 #[v] w fun e w'=>e= .returned (.bool (falseC a))∧Ext w w':=by
 obtain⟨s,l,x⟩:=a
 simp only at hn
 obtain⟨a,n,p,b,a1,n1,c1,a2,n2,c2,rfl,ht,hr⟩:=hv.op;have HT:=Lib.hid ht;have HR:=Lib.hid hr;clear ht hr;obtain⟨c0,hc0⟩:∃c,c=sens s:=⟨_,rfl⟩;obtain⟨c1',hc1⟩:∃c,c=bareC (s,l,x):=⟨_,rfl⟩;obtain⟨c2',hc2⟩:∃c,c=keptQ s ((0:Int):Rat) x:=⟨_,rfl⟩
 have HF:Hid (falseC (s,l,x)=((c0&&c1')&& !c2')):=Lib.hid (by rw[hc0,hc1,hc2,Bool.and_assoc];rfl)
 have H0:=Lib.hid hc0;have H1:=Lib.hid hc1;have H2:=Lib.hid hc2
 have hz0:szD ((0:Int):Rat)≤5:=by decide+kernel
 clear hc0 hc1 hc2;obtain⟨w1,hw1,e1,b1_,s1⟩:=alloc1 w #[.int .i64 s,.slice a n p,.bool b,.slice a1 n1 c1,.slice a2 n2 c2] 36
 go_enter Tryz.func32,Tryz.ntmps32
 go_wp2_with fail;rw[←hw1];clear hw1;refine wpQ [PP.val (.pointer (some ⟨w.heap.size,0,none⟩)),PP.val (.int .i64 s),PP.val (.bool c0),PP.val (.bool c0),PP.whn c0 (PP.val (.agg #[.int .i64 s,.slice a n p,.bool b,.slice a1 n1 c1,.slice a2 n2 c2])),PP.whn c0 (PP.val (.bool c1')),PP.val (.bool (c0&&(c1'))),PP.val (.bool (c0&&(c1'))),PP.whn ((c0&&(c1'))) (PP.val (.agg #[.int .i64 s,.slice a n p,.bool b,.slice a1 n1 c1,.slice a2 n2 c2])),PP.whn ((c0&&(c1'))) (PP.frQd ((0:Int):Rat)),PP.whn ((c0&&(c1'))) (PP.val (.bool c2')),PP.whn ((c0&&(c1'))) (PP.val (.bool (!(c2')))),PP.val (.bool (((c0&&(c1')))&&((!(c2'))))),PP.val (.bool (((c0&&(c1')))&&((!(c2')))))] [] [0,1,2,3,4,5,6,7,8,9,10,11,12,13] ?_ ?_
 ·refine⟨?_,?_,?_,?_,?_,?_,?_,?_,?_,?_,?_,?_,?_,?_,trivial⟩
  ·intro f w2 hG hp hl;simp only[OpGoal];go_simp;exact⟨_,rfl,Ext.refl _,rfl⟩
  ·intro f w2 hG hp hl;have hE:Ext w1 w2:=hG;have q3:=tE hp 0 0 rfl rfl rfl;have hcell:=(b1_.ext hE).cell 0;simp only[OpGoal];go_simp;exact⟨_,rfl,Ext.refl _,rfl⟩
  ·intro f w2 hG hp hl;have q4:=tE hp 0 1 rfl rfl rfl;change OpGoal _ _ _ f w2 Ext _;refine oC #[f 1] Tryz.func33 rfl rfl ?_;rw[q4];refine(sense11_calls s _).mono ?_;rintro e w' ⟨rfl,h2⟩
   exact⟨_,rfl,h2,by rw[H0.out]<;>rfl⟩
  ·intro f w2 hG hp hl;have q5:=tE hp 0 2 rfl rfl rfl;exact⟨_,rfl,Ext.refl _,q5⟩
  ·intro f w2 hG hp hl;have hE:Ext w1 w2:=hG;have qg:=tellV hp 0 3 rfl rfl (fun h=>by cases h);refine og_when (p:=(PP.val (.agg #[.int .i64 s,.slice a n p,.bool b,.slice a1 n1 c1,.slice a2 n2 c2]):PP _).p) rfl (when_t qg) ?_;intro hg0;clear qg;change OpGoal _ _ _ f w2 Ext _;exact og_load (P:=Tryz.prog) _ _ w.heap.size _ _ _ rfl rfl rfl (b1_.ext hE) Tryz.underlying36 rfl (by kernel_rfl) rfl
  ·intro f w2 hG hp hl;have hE:Ext w1 w2:=hG;have qg:=tellV hp 1 3 rfl rfl (fun h=>by cases h);refine og_when (p:=(PP.val (.bool c1'):PP _).p) rfl (when_t qg) ?_;intro hg0;clear qg
   have q7:f 4= .agg #[.int .i64 s,.slice a n p,.bool b,.slice a1 n1 c1,.slice a2 n2 c2]:=(tellV hp 0 4 rfl rfl (fun h=>by cases h)).1 hg0
   change OpGoal _ _ _ f w2 Ext _;refine oC #[f 4] Tryz.func70 rfl rfl ?_;rw[q7];refine(bare11_calls k _ (s,l,x) _ (CnR.mk' (HT.out.ext (e1.trans hE)) (HR.out.ext (e1.trans hE))) hk hn).mono ?_;rintro e w' ⟨rfl,h2⟩
   exact⟨_,rfl,h2,by rw[H1.out]<;>rfl⟩
  ·intro f w2 hG hp hl;have q6:=tE hp 0 3 rfl rfl rfl;have q8:=tellV hp 1 5 rfl rfl (fun h=>by cases h);change OpGoal _ _ _ f w2 Ext _;exact og_pickA (P:=Tryz.prog) _ _ rfl rfl q6 (fun h=>q8.1 (by rw[h])) rfl
  ·intro f w2 hG hp hl;have q9:=tE hp 0 6 rfl rfl rfl;simp only[OpGoal];go_simp;exact⟨_,rfl,Ext.refl _,rfl⟩
  ·intro f w2 hG hp hl;have hE:Ext w1 w2:=hG;have qg:=tellV hp 0 7 rfl rfl (fun h=>by cases h);refine og_when (p:=(PP.val (.agg #[.int .i64 s,.slice a n p,.bool b,.slice a1 n1 c1,.slice a2 n2 c2]):PP _).p) rfl (when_t qg) ?_;intro hg0;clear qg;change OpGoal _ _ _ f w2 Ext _;exact og_load (P:=Tryz.prog) _ _ w.heap.size _ _ _ rfl rfl rfl (b1_.ext hE) Tryz.underlying36 rfl (by kernel_rfl) rfl
  ·intro f w2 hG hp hl;have hE:Ext w1 w2:=hG;have hS:=hE.size;have qg:=tellV hp 0 7 rfl rfl (fun h=>by cases h);refine og_when (p:=(PP.frQd ((0:Int):Rat):PP _).p) rfl (when_t qg) ?_;intro hg0;clear qg;change OpGoal _ _ _ f w2 Ext _;refine oC #[.int .i64 0] Tryz.func58 rfl rfl ?_;refine(rqsmall3_calls 0 _ (by omega) (by omega)).mono ?_;rintro e w' ⟨v',rfl,h1,h2⟩;exact⟨v',rfl,h2,h1.mono hS⟩
  ·intro f w2 hG hp hl;have hE:Ext w1 w2:=hG;have hS:=hE.size;have qg:=tellV hp 3 7 rfl rfl (fun h=>by cases h);refine og_when (p:=(PP.val (.bool c2'):PP _).p) rfl (when_t qg) ?_;intro hg0;clear qg
   have q11:f 8= .agg #[.int .i64 s,.slice a n p,.bool b,.slice a1 n1 c1,.slice a2 n2 c2]:=(tellV hp 0 8 rfl rfl (fun h=>by cases h)).1 hg0
   have q12:=(tellV hp 1 9 rfl rfl (fun _=>hE)).1 hg0;change OpGoal _ _ _ f w2 Ext _;refine oC #[f 8,f 9] Tryz.func93 rfl rfl ?_;rw[q11];refine(kept11_calls k 5 _ _ (s,l,x) ((0:Int):Rat) _ (CnR.mk' (HT.out.ext (e1.trans hE)) (HR.out.ext (e1.trans hE))) q12.cq hk hz0 (by omega)).mono ?_;rintro e w' ⟨rfl,h2⟩
   exact⟨_,rfl,h2,by rw[H2.out]<;>rfl⟩
  ·intro f w2 hG hp hl;have qg:=tellV hp 1 7 rfl rfl (fun h=>by cases h);refine og_when (p:=(PP.val (.bool (!(c2'))):PP _).p) rfl (when_t qg) ?_;intro hg0;clear qg
   have q13:f 10= .bool c2':=(tellV hp 0 10 rfl rfl (fun h=>by cases h)).1 hg0
   change OpGoal _ _ _ f w2 Ext _;exact og_not (P:=Tryz.prog) _ _ rfl rfl q13 rfl
  ·intro f w2 hG hp hl;have q10:=tE hp 0 7 rfl rfl rfl;have q14:=tellV hp 1 11 rfl rfl (fun h=>by cases h);change OpGoal _ _ _ f w2 Ext _;exact og_pickA (P:=Tryz.prog) _ _ rfl rfl q10 (fun h=>q14.1 (by rw[h])) rfl
  ·intro f w2 hG hp hl;have q15:=tE hp 0 12 rfl rfl rfl;simp only[OpGoal];go_simp;exact⟨_,rfl,Ext.refl _,rfl⟩
 ·intro f w2 hG hp;have hE:Ext w1 w2:=ChgS.nil hG
  have q2:f 13= .bool (((c0&&(c1')))&&((!(c2')))):=endV hp 13 (by decide) rfl (fun h=>by cases h)
  try simp only[q2]
  clear hp;have X:=e1.trans hE;obtain⟨pp,hpp⟩:∃pp,pp=((c0&&c1')&& !c2'):=⟨_,rfl⟩;rw[←hpp];have HP:=Lib.hid hpp;clear hpp;go_wp2;go_ret
  exact⟨by rw[HF.out,←HP.out]<;>rfl,X⟩
theorem fmQ_inj{x y:Rat}(h:fmQ x=fmQ y):x=y:=by
 unfold fmQ at h;simp only[Prod.mk.injEq,decide_eq_decide]at h;obtain⟨h1,h2,h3⟩:=h;have e1:=dg_inj W_gt h2;have e2:=dg_inj W_gt h3;refine Rat.ext ?_ e2
 rcases Int.natAbs_eq_natAbs_iff.1 e1 with e |e
 ·exact e
 ·by_cases h0:x.num<0
  ·have:=h1.1 h0;omega
  ·have:¬y.num<0:=fun h=>h0 (h1.2 h)
   omega
theorem fmV_inj:∀{l m:List (Int×Rat)},fmV l=fmV m→l=m
 | [],[],_=>rfl
 | [],_::_,h=>by simp[fmV]at h
 |_::_,[],h=>by simp[fmV]at h
 |x::l,y::m,h=>by
  unfold fmV at h;simp only[List.map_cons,List.cons.injEq,Prod.mk.injEq]at h;rw[fmV_inj (l:=l) (m:=m) h.2,Prod.ext h.1.1 (fmQ_inj h.1.2)]
set_option maxHeartbeats 4000000 in
theorem alike11_calls(k:Nat)(v u:Value)(a b:CR)(w:World)(hv:CnR k w v a)(hu:CnR k w u b)(hk:k≤1000000)(hn:a.2.1.length≤1000)(hn2:b.2.1.length≤1000):
  Calls Tryz.prog 94 #[v,u] w fun e w'=>e= .returned (.bool (likeC a b))∧Ext w w':=by
 obtain⟨s,l,x⟩:=a;obtain⟨s2,m,x2⟩:=b
 simp only at hn hn2
 have hm1:l.length*(k+1)≤1000*1000001:=Nat.mul_le_mul hn (by omega);have hm2:m.length*(k+1)≤1000*1000001:=Nat.mul_le_mul hn2 (by omega)
 have HL:Hid (likeC (s,l,x) (s2,m,x2)=decide (fmV (mkV l)=fmV (mkV m))):=Lib.hid (by
  rw[Bool.eq_iff_iff,likeC_iff,decide_eq_true_iff]
  exact⟨fun h=>congrArg fmV h,fun h=>fmV_inj h⟩)
 obtain⟨a,n,p,b,a1,n1,c1,a2,n2,c2,rfl,ht,hr⟩:=hv.op;have HT:=Lib.hid ht;have HR:=Lib.hid hr;clear ht hr;obtain⟨ay,ny,py,bby,a1y,n1y,c1y,a2y,n2y,c2y,rfl,hty,hry⟩:=hu.op;have HTy:=Lib.hid hty;have HRy:=Lib.hid hry;clear hty hry
 have lim:68719476736≤LIM:=by rw[LIM_eq];omega
 obtain⟨r,hr⟩:∃r,r=decide (fmV (mkV l)=fmV (mkV m)):=⟨_,rfl⟩;rw[←hr]at HL;have HRR:=Lib.hid hr;clear hr;obtain⟨w1,hw1,e1,b1_,b2_,s1⟩:=alloc2 w #[.int .i64 s,.slice a n p,.bool b,.slice a1 n1 c1,.slice a2 n2 c2] #[.int .i64 s2,.slice ay ny py,.bool bby,.slice a1y n1y c1y,.slice a2y n2y c2y] 36 36
 go_enter Tryz.func94,Tryz.ntmps94
 go_wp2_with fail;rw[←hw1];clear hw1;refine wpQ [PP.val (.pointer (some ⟨w.heap.size,1,none⟩)),PP.val (.slice a n p),PP.tO (l.length*(k+1)+1) (mkV l),PP.val (.pointer (some ⟨(w.heap.size+1),1,none⟩)),PP.val (.slice ay ny py),PP.tO (m.length*(k+1)+1) (mkV m),PP.val (.bool r),PP.val (.bool r)] [] [0,1,2,3,4,5,6,7] ?_ ?_
 ·refine⟨?_,?_,?_,?_,?_,?_,?_,?_,trivial⟩
  ·intro f w2 hG hp hl;simp only[OpGoal];go_simp;exact⟨_,rfl,Ext.refl _,rfl⟩
  ·intro f w2 hG hp hl;have hE:Ext w1 w2:=hG;have q5:=tE hp 0 0 rfl rfl rfl;have hcell:=(b1_.ext hE).cell 1;simp only[OpGoal];go_simp;exact⟨_,rfl,Ext.refl _,rfl⟩
  ·intro f w2 hG hp hl;have hE:Ext w1 w2:=hG;have hS:=hE.size;have q6:=tE hp 0 1 rfl rfl rfl;change OpGoal _ _ _ f w2 Ext _;refine oC #[f 1] Tryz.func99 rfl rfl ?_;rw[q6];refine(make5_calls k _ l _ (HT.out.ext (e1.trans hE)) hk hn).mono ?_;rintro e w' ⟨v',rfl,h1,h2⟩;exact⟨v',rfl,h2,h1.mono hS⟩
  ·intro f w2 hG hp hl;simp only[OpGoal];go_simp;exact⟨_,rfl,Ext.refl _,rfl⟩
  ·intro f w2 hG hp hl;have hE:Ext w1 w2:=hG;have q8:=tE hp 0 3 rfl rfl rfl;have hcell:=(b2_.ext hE).cell 1;simp only[OpGoal];go_simp;exact⟨_,rfl,Ext.refl _,rfl⟩
  ·intro f w2 hG hp hl;have hE:Ext w1 w2:=hG;have hS:=hE.size;have q9:=tE hp 0 4 rfl rfl rfl;change OpGoal _ _ _ f w2 Ext _;refine oC #[f 4] Tryz.func99 rfl rfl ?_;rw[q9];refine(make5_calls k _ m _ (HTy.out.ext (e1.trans hE)) hk hn2).mono ?_;rintro e w' ⟨v',rfl,h1,h2⟩;exact⟨v',rfl,h2,h1.mono hS⟩
  ·intro f w2 hG hp hl;have hE:Ext w1 w2:=hG;have hS:=hE.size;have q7:=tellV hp 0 2 rfl rfl (fun _=>hE);have q10:=tellV hp 1 5 rfl rfl (fun _=>hE);change OpGoal _ _ _ f w2 Ext _;refine oC #[f 2,f 5] Tryz.func49 rfl rfl ?_;refine(vsame_calls _ _ (fmV (mkV l)) (fmV (mkV m)) _ (q7.tle (by omega)) (q10.tle (by omega))).mono ?_;rintro e w' ⟨rfl,h2⟩
   exact⟨_,rfl,h2,by rw[HRR.out]<;>rfl⟩
  ·intro f w2 hG hp hl;have q11:=tE hp 0 6 rfl rfl rfl;exact⟨_,rfl,Ext.refl _,q11⟩
 ·intro f w2 hG hp;have hE:Ext w1 w2:=ChgS.nil hG
  have q4:f 7= .bool r:=endV hp 7 (by decide) rfl (fun h=>by cases h)
  try simp only[q4]
  clear hp;have X:=e1.trans hE;go_wp2;go_ret
  exact⟨by rw[HL.out]<;>rfl,X⟩
end Go.Proofs.YtokfaggcojokgaaGreat
