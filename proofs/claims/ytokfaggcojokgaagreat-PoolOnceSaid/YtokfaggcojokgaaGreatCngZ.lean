/-
 Constraints: whether one dominates another one, whether two split (cons.Dominates, Split).
-/
import Derived.Test.YtokfaggcojokgaaGreatCnfZ
namespace Go.Proofs.YtokfaggcojokgaaGreat
set_option maxRecDepth 100000
set_option maxHeartbeats 1000000
open Go.RowKit
set_option linter.unusedVariables false
set_option linter.unusedSimpArgs false
theorem dom_eq{a b:CR}(h1:sens a.1=true)(h2:sens b.1=true):domC a b=((falseC a || (bareC b&&keptQ b.1 0 b.2.2)) || (likeC a b&&(decide (a.1=b.1∨a.1=3)&&keptQ b.1 a.2.2 b.2.2))):=by
 unfold domC;rw[h1,h2,Bool.and_assoc (likeC a b)]
 rfl
theorem dom_no1{a b:CR}(h:sens a.1=false):domC a b=false:=by unfold domC;rw[h];rfl
theorem dom_no2{a b:CR}(h:sens b.1=false):domC a b=false:=by unfold domC;rw[h,Bool.and_false];rfl
theorem CnR.mk'{k:Nat}{w:World}{s:Int}{l:List (Int×Rat)}{x:Rat}{a:Option Addr}{n p:Nat}{b:Bool}{a1:Option Addr}{n1 c1:Nat}{a2:Option Addr}{n2 c2:Nat}(h1:TL k w (.slice a n p) l)(h2:IsR w (.agg #[.bool b,.slice a1 n1 c1,.slice a2 n2 c2]) x k):CnR k w (.agg #[.int .i64 s,.slice a n p,.bool b,.slice a1 n1 c1,.slice a2 n2 c2]) (s,l,x):=⟨a,n,p,b,a1,n1,c1,a2,n2,c2,rfl,h1,h2⟩
set_option maxHeartbeats 16000000 in
theorem dominates_calls(k N:Nat)(v u:Value)(a b:CR)(w:World)(hv:CnR k w v a)(hu:CnR k w u b)(hN:a.2.1.length≤N)(hN2:b.2.1.length≤N)(hn:2*N≤1073741824)(hk:(2*N+1)*(2*k+2)≤34359738000):
  Calls Tryz.prog 28 #[v,u] w fun e w'=>e= .returned (.bool (domC a b))∧Ext w w':=by
 obtain⟨s,l,x⟩:=a;obtain⟨s2,m,x2⟩:=b
 simp only at hN hN2
 have hk1:∀n,n≤2*N→∀j,j≤2*k+2→(n+1)*j≤34359738000:=fun n h j hj=>Nat.le_trans (Nat.mul_le_mul (by omega) hj) hk
 have HK1:=Lib.hid hk1
 have hkk:2*k+2≤34359738000:=by have:=hk1 0 (by omega) (2*k+2) (by omega);omega
 obtain⟨a,n,p,b,a1,n1,c1,a2,n2,c2,rfl,ht,hr⟩:=hv.op;have HT:=Lib.hid ht;have HR:=Lib.hid hr;clear ht hr;obtain⟨ay,ny,py,bby,a1y,n1y,c1y,a2y,n2y,c2y,rfl,hty,hry⟩:=hu.op;have HTy:=Lib.hid hty;have HRy:=Lib.hid hry;clear hty hry
 have lim:68719476736≤LIM:=by rw[LIM_eq];omega
 have hvl:=HK1.out l.length (by omega) (k+1) (by omega);have hml:=HK1.out m.length (by omega) (k+1) (by omega);have hlm:=HK1.out (m.length+l.length) (by omega) (k+k+2) (by omega);have HKs:=Lib.hid (And.intro hvl (And.intro hml hlm));clear hvl hml hlm hk1 hk;obtain⟨w1,hw1,e1,b1_,b2_,s1⟩:=alloc2 w #[.int .i64 s,.slice a n p,.bool b,.slice a1 n1 c1,.slice a2 n2 c2] #[.int .i64 s2,.slice ay ny py,.bool bby,.slice a1y n1y c1y,.slice a2y n2y c2y] 36 36
 go_enter Tryz.func28,Tryz.ntmps28
 go_wp2_with fail;rw[←hw1];refine(sensible_calls s w1).mono ?_;rintro e w2 ⟨rfl,e2⟩;have E2:=e1.trans e2;have B2:=b1_.ext e2;have Q2:=b2_.ext e2;clear hw1 b1_ b2_ e1 e2
 cases hs:sens s with
 |false=>
  have HD:=Lib.hid (dom_no1 (a:=(s,l,x)) (b:=(s2,m,x2)) hs);clear hs;go_wp2;go_ret
  exact⟨by rw[HD.out]<;>rfl,E2⟩
 |true=>
 have HS:=Lib.hid hs;clear hs;have hy0:=Q2.cell 0;go_wp2_with fail;refine(sensible_calls s2 w2).mono ?_;rintro e w3 ⟨rfl,e3⟩;have E3:=E2.trans e3;have B3:=B2.ext e3;have Q3:=Q2.ext e3;clear hy0 B2 Q2 E2 e3
 cases hs:sens s2 with
 |false=>
  have HD:=Lib.hid (dom_no2 (a:=(s,l,x)) (b:=(s2,m,x2)) hs);clear hs;go_wp2;go_ret
  exact⟨by rw[HD.out]<;>rfl,E3⟩
 |true=>
 have HD:=Lib.hid (dom_eq (a:=(s,l,x)) (b:=(s2,m,x2)) HS.out hs);clear hs HS;obtain⟨q,hq⟩:∃q,q=(mkV m).length:=⟨_,rfl⟩;obtain⟨fa,hfa⟩:∃c,c=falseC (s,l,x):=⟨_,rfl⟩;obtain⟨cb,hcb⟩:∃c,c=((q:Int)==0):=⟨_,rfl⟩;obtain⟨kp,hkp⟩:∃c,c=keptQ s2 ((0:Int):Rat) x2:=⟨_,rfl⟩
 have HBR:Hid (bareC (s2,m,x2)=cb):=Lib.hid (by rw[hcb,len_zero hq];rfl)
 have HQ:=Lib.hid hq;have HFA:=Lib.hid hfa;have HCB:=hcb.symm;have HKP:=Lib.hid hkp;clear hq hfa hcb hkp;go_wp2_with fail;refine wpQ [PP.val (.agg #[.int .i64 s,.slice a n p,.bool b,.slice a1 n1 c1,.slice a2 n2 c2]),PP.val (.bool fa),PP.val (.bool fa),PP.whn (!fa) (PP.val (.pointer (some ⟨(w.heap.size+1),1,none⟩))),PP.whn (!fa) (PP.val (.slice ay ny py)),PP.whn (!fa) (PP.tO (m.length*(k+1)) (mkV m)),PP.whn (!fa) (PP.val (.int .i64 (q:Int))),PP.whn (!fa) (PP.val (.bool cb)),PP.whn (!fa) (PP.val (.bool cb)),PP.whn ((!fa)&&cb) (PP.val (.pointer (some ⟨(w.heap.size+1),0,none⟩))),PP.whn ((!fa)&&cb) (PP.val (.int .i64 s2)),PP.whn ((!fa)&&cb) (PP.frQS ((0:Int):Rat) 1),PP.whn ((!fa)&&cb) (PP.val (.pointer (some ⟨(w.heap.size+1),2,none⟩))),PP.whn ((!fa)&&cb) (PP.val (.agg #[.bool bby,.slice a1y n1y c1y,.slice a2y n2y c2y])),PP.whn ((!fa)&&cb) (PP.val (.bool kp)),PP.whn (!fa) (PP.val (.bool (cb&&kp))),PP.val (.bool (fa || ((cb&&kp))))] [] [0,1,2,3,4,5,6,7,8,9,10,11,12,13,14,15,16] ?_ ?_
 ·refine⟨?_,?_,?_,?_,?_,?_,?_,?_,?_,?_,?_,?_,?_,?_,?_,?_,?_,trivial⟩
  ·intro f w2 hG hp hl;have hE:Ext w3 w2:=hG;change OpGoal _ _ _ f w2 Ext _;exact og_load (P:=Tryz.prog) _ _ w.heap.size _ _ _ rfl rfl rfl (B3.ext hE) Tryz.underlying36 rfl (by kernel_rfl) rfl
  ·intro f w2 hG hp hl;have hE:Ext w3 w2:=hG;have hS:=hE.size;have q15:=tE hp 0 0 rfl rfl rfl;change OpGoal _ _ _ f w2 Ext _;refine oC #[f 0] Tryz.func38 rfl rfl ?_;rw[q15];refine(cfalse_calls k _ (s,l,x) _ (CnR.mk' (HT.out.ext (E3.trans hE)) (HR.out.ext (E3.trans hE))) (by simp only;omega) HKs.out.1).mono ?_;rintro e w' ⟨rfl,h2⟩
   exact⟨_,rfl,h2,by rw[HFA.out]<;>rfl⟩
  ·intro f w2 hG hp hl;have q16:=tE hp 0 1 rfl rfl rfl;exact⟨_,rfl,Ext.refl _,q16⟩
  ·intro f w2 hG hp hl;have qg:=tellV hp 0 2 rfl rfl (fun h=>by cases h);refine og_when (p:=(PP.val (.pointer (some ⟨(w.heap.size+1),1,none⟩)):PP _).p) rfl (when_f qg) ?_;intro hg0;clear qg;simp only[OpGoal];go_simp;exact⟨_,rfl,Ext.refl _,rfl⟩
  ·intro f w2 hG hp hl;have hE:Ext w3 w2:=hG;have qg:=tellV hp 1 2 rfl rfl (fun h=>by cases h);refine og_when (p:=(PP.val (.slice ay ny py):PP _).p) rfl (when_f qg) ?_;intro hg0;clear qg
   have q18:f 3= .pointer (some ⟨(w.heap.size+1),1,none⟩):=(tellV hp 0 3 rfl rfl (fun h=>by cases h)).1 hg0
   have hcell:=(Q3.ext hE).cell 1;simp only[OpGoal];go_simp;exact⟨_,rfl,Ext.refl _,rfl⟩
  ·intro f w2 hG hp hl;have hE:Ext w3 w2:=hG;have hS:=hE.size;have qg:=tellV hp 1 2 rfl rfl (fun h=>by cases h);refine og_when (p:=(PP.tO (m.length*(k+1)) (mkV m):PP _).p) rfl (when_f qg) ?_;intro hg0;clear qg
   have q19:f 4= .slice ay ny py:=(tellV hp 0 4 rfl rfl (fun h=>by cases h)).1 hg0
   change OpGoal _ _ _ f w2 Ext _;refine oC #[f 4] Tryz.func90 rfl rfl ?_;rw[q19];refine(vmake_calls k _ m _ (HTy.out.ext (E3.trans hE)) (by omega) HKs.out.2.1).mono ?_;rintro e w' ⟨v',rfl,h1,h2⟩;exact⟨v',rfl,h2,h1.mono hS⟩
  ·intro f w2 hG hp hl;have hE:Ext w3 w2:=hG;have qg:=tellV hp 1 2 rfl rfl (fun h=>by cases h);refine og_when (p:=(PP.val (.int .i64 (q:Int)):PP _).p) rfl (when_f qg) ?_;intro hg0;clear qg;have q20:=(tellV hp 0 5 rfl rfl (fun _=>hE)).1 hg0;obtain⟨ad,cap,hv⟩:=TO.val q20;rw[←HQ.out]at hv;simp only[OpGoal];go_simp;exact⟨_,rfl,Ext.refl _,rfl⟩
  ·intro f w2 hG hp hl;have qg:=tellV hp 1 2 rfl rfl (fun h=>by cases h);refine og_when (p:=(PP.val (.bool cb):PP _).p) rfl (when_f qg) ?_;intro hg0;clear qg
   have q21:f 6= .int .i64 (q:Int):=(tellV hp 0 6 rfl rfl (fun h=>by cases h)).1 hg0
   simp only[OpGoal];go_simp;exact⟨_,rfl,Ext.refl _,rfl⟩
  ·intro f w2 hG hp hl;have qg:=tellV hp 2 2 rfl rfl (fun h=>by cases h);refine og_when (p:=(PP.val (.bool cb):PP _).p) rfl (when_f qg) ?_;intro hg0;clear qg
   have q22:f 7= .bool cb:=(tellV hp 0 7 rfl rfl (fun h=>by cases h)).1 hg0
   simp only[OpGoal];go_simp;exact⟨_,rfl,Ext.refl _,rfl⟩
  ·intro f w2 hG hp hl;have qg:=tellV hp 0 8 rfl rfl (fun h=>by cases h);refine og_when (p:=(PP.val (.pointer (some ⟨(w.heap.size+1),0,none⟩)):PP _).p) rfl (when_in qg) ?_;intro hg0;clear qg;have hg1:=(Bool.and_eq_true_iff.1 hg0).1;simp only[OpGoal];go_simp;exact⟨_,rfl,Ext.refl _,rfl⟩
  ·intro f w2 hG hp hl;have hE:Ext w3 w2:=hG;have qg:=tellV hp 1 8 rfl rfl (fun h=>by cases h);refine og_when (p:=(PP.val (.int .i64 s2):PP _).p) rfl (when_in qg) ?_;intro hg0;clear qg;have hg1:=(Bool.and_eq_true_iff.1 hg0).1
   have q24:f 9= .pointer (some ⟨(w.heap.size+1),0,none⟩):=(tellV hp 0 9 rfl rfl (fun h=>by cases h)).1 hg0
   have hcell:=(Q3.ext hE).cell 0;simp only[OpGoal];go_simp;exact⟨_,rfl,Ext.refl _,rfl⟩
  ·intro f w2 hG hp hl;have hE:Ext w3 w2:=hG;have hS:=hE.size;have qg:=tellV hp 0 8 rfl rfl (fun h=>by cases h);refine og_when (p:=(PP.frQS ((0:Int):Rat) 1:PP _).p) rfl (when_in qg) ?_;intro hg0;clear qg;have hg1:=(Bool.and_eq_true_iff.1 hg0).1;change OpGoal _ _ _ f w2 Ext _;refine oC #[.int .i64 0] Tryz.func78 rfl rfl ?_;refine(rwhole_calls 0 _ (by omega) (by omega)).mono ?_;rintro e w' ⟨v',rfl,h1,h2⟩;exact⟨v',rfl,h2,h1.mono hS,szQ_int0⟩
  ·intro f w2 hG hp hl;have qg:=tellV hp 0 8 rfl rfl (fun h=>by cases h);refine og_when (p:=(PP.val (.pointer (some ⟨(w.heap.size+1),2,none⟩)):PP _).p) rfl (when_in qg) ?_;intro hg0;clear qg;have hg1:=(Bool.and_eq_true_iff.1 hg0).1;simp only[OpGoal];go_simp;exact⟨_,rfl,Ext.refl _,rfl⟩
  ·intro f w2 hG hp hl;have hE:Ext w3 w2:=hG;have qg:=tellV hp 1 8 rfl rfl (fun h=>by cases h);refine og_when (p:=(PP.val (.agg #[.bool bby,.slice a1y n1y c1y,.slice a2y n2y c2y]):PP _).p) rfl (when_in qg) ?_;intro hg0;clear qg;have hg1:=(Bool.and_eq_true_iff.1 hg0).1
   have q27:f 12= .pointer (some ⟨(w.heap.size+1),2,none⟩):=(tellV hp 0 12 rfl rfl (fun h=>by cases h)).1 hg0
   have hbx:=Q3.ext hE;have hcell0:=hbx.cell 0;have hcell1:=hbx.cell 1;have hcell2:=hbx.cell 2;have hcell3:=hbx.cell 3;have hcell4:=hbx.cell 4;simp only[OpGoal];go_simp;exact⟨_,rfl,Ext.refl _,rfl⟩
  ·intro f w2 hG hp hl;have hE:Ext w3 w2:=hG;have hS:=hE.size;have qg:=tellV hp 4 8 rfl rfl (fun h=>by cases h);refine og_when (p:=(PP.val (.bool kp):PP _).p) rfl (when_in qg) ?_;intro hg0;clear qg;have hg1:=(Bool.and_eq_true_iff.1 hg0).1
   have q25:f 10= .int .i64 s2:=(tellV hp 0 10 rfl rfl (fun h=>by cases h)).1 hg0
   have q26:=(tellV hp 1 11 rfl rfl (fun _=>hE)).1 hg0
   have q28:f 13= .agg #[.bool bby,.slice a1y n1y c1y,.slice a2y n2y c2y]:=(tellV hp 2 13 rfl rfl (fun h=>by cases h)).1 hg0
   change OpGoal _ _ _ f w2 Ext _;refine oC #[f 10,f 11,f 13] Tryz.func91 rfl rfl ?_;rw[q25,q28];refine(kept_calls s2 _ _ ((0:Int):Rat) x2 1 k _ (q26.1.isR q26.2 (by omega)) (HRy.out.ext (E3.trans hE)) (by omega)).mono ?_;rintro e w' ⟨rfl,h2⟩
   exact⟨_,rfl,h2,by rw[HKP.out]<;>rfl⟩
  ·intro f w2 hG hp hl;have qg:=tellV hp 2 2 rfl rfl (fun h=>by cases h);refine og_when (p:=(PP.val (.bool (cb&&kp)):PP _).p) rfl (when_f qg) ?_;intro hg0;clear qg
   have q23:f 8= .bool cb:=(tellV hp 0 8 rfl rfl (fun h=>by cases h)).1 hg0
   have q29:=tellV hp 1 14 rfl rfl (fun h=>by cases h);change OpGoal _ _ _ f w2 Ext _;exact og_pickA (P:=Tryz.prog) _ _ rfl rfl q23 (fun h=>q29.1 (by rw[hg0,h];rfl)) rfl
  ·intro f w2 hG hp hl;have q17:=tE hp 0 2 rfl rfl rfl;have q30:=tellV hp 1 15 rfl rfl (fun h=>by cases h);change OpGoal _ _ _ f w2 Ext _;exact og_pickO (P:=Tryz.prog) _ _ rfl rfl q17 (fun h=>q30.1 (by rw[h];rfl)) rfl
 ·intro f w4 hG hp;have hE:Ext w3 w4:=ChgS.nil hG
  have q31:f 16= .bool (fa || ((cb&&kp))):=endV hp 16 (by decide) rfl (fun h=>by cases h)
  try simp only[q31]
  clear hp;have E4:=E3.trans hE;have B4:=B3.ext hE;have Q4:=Q3.ext hE;clear HCB B3 Q3 hE E3
  have HD1:Hid (domC (s,l,x) (s2,m,x2)=((fa || (cb&&kp)) || (likeC (s,l,x) (s2,m,x2)&&(decide (s=s2∨s=3)&&keptQ s2 x x2)))):=Lib.hid (by rw[HD.out,HBR.out,←HFA.out,HKP.out];rfl)
  obtain⟨r,hr⟩:∃r,r=(fa || (cb&&kp)):=⟨_,rfl⟩;rw[←hr];rw[←hr]at HD1;clear hr HD HBR HFA HKP
  cases r with
  |true=>
   go_wp2;go_ret
   exact⟨by rw[HD1.out]<;>rfl,E4⟩
  |false=>
   have hb0:=B4.cell 0;have hb1:=B4.cell 1;have hb2:=B4.cell 2;have hb3:=B4.cell 3;have hb4:=B4.cell 4;have hy0:=Q4.cell 0;have hy1:=Q4.cell 1;have hy2:=Q4.cell 2;have hy3:=Q4.cell 3;have hy4:=Q4.cell 4;go_wp2_with fail;refine(calike_calls k k _ _ (s,l,x) (s2,m,x2) w4 (CnR.mk' (HT.out.ext E4) (HR.out.ext E4)) (CnR.mk' (HTy.out.ext E4) (HRy.out.ext E4)) (by simp only;omega) HKs.out.2.2).mono ?_;rintro e w5 ⟨rfl,e5⟩;have E5:=E4.trans e5;have B5:=B4.ext e5;have Q5:=Q4.ext e5;clear hb0 hb1 hb2 hb3 hb4 hy0 hy1 hy2 hy3 hy4 B4 Q4 E4 e5;have hb0:=B5.cell 0;have hb1:=B5.cell 1;have hb2:=B5.cell 2;have hb3:=B5.cell 3;have hb4:=B5.cell 4;have hy0:=Q5.cell 0;have hy1:=Q5.cell 1;have hy2:=Q5.cell 2;have hy3:=Q5.cell 3;have hy4:=Q5.cell 4;obtain⟨la,hla⟩:∃la,la=likeC (s,l,x) (s2,m,x2):=⟨_,rfl⟩;rw[←hla]at HD1 ⊢;clear hla
   cases la with
   |false=>
    go_wp2;go_ret
    exact⟨by rw[HD1.out]<;>rfl,E5⟩
   |true=>
    have kept:=fun w6 (h:Ext w w6)=>kept_calls s2 (.agg #[.bool b,.slice a1 n1 c1,.slice a2 n2 c2]) (.agg #[.bool bby,.slice a1y n1y c1y,.slice a2y n2y c2y]) x x2 k k w6 (HR.out.ext h) (HRy.out.ext h) (by omega)
    by_cases hss:s=s2
    ·have hse:(s==s2)=true:=by simpa using hss
     have HDD:=Lib.hid (show decide (s=s2∨s=3)=true from decide_eq_true (.inl hss));clear hss;go_wp2_with fail;refine(kept w5 E5).mono ?_;rintro e w6 ⟨rfl,e6⟩
     have HF:Hid (domC (s,l,x) (s2,m,x2)=keptQ s2 x x2):=Lib.hid (by rw[HD1.out,HDD.out];rfl)
     obtain⟨kq,hkq⟩:∃kq,kq=keptQ s2 x x2:=⟨_,rfl⟩;rw[←hkq]at HF ⊢;clear hkq HD1 HDD;go_wp2;go_ret
     exact⟨by rw[HF.out]<;>rfl,E5.trans e6⟩
    have hse:(s==s2)=false:=by simpa using hss
    by_cases h3:s=3
    ·have hs3:(s==3)=true:=by simpa using h3
     have HDD:=Lib.hid (show decide (s=s2∨s=3)=true from decide_eq_true (.inr h3));clear hss h3;go_wp2_with fail;refine(kept w5 E5).mono ?_;rintro e w6 ⟨rfl,e6⟩
     have HF:Hid (domC (s,l,x) (s2,m,x2)=keptQ s2 x x2):=Lib.hid (by rw[HD1.out,HDD.out];rfl)
     obtain⟨kq,hkq⟩:∃kq,kq=keptQ s2 x x2:=⟨_,rfl⟩;rw[←hkq]at HF ⊢;clear hkq HD1 HDD;go_wp2;go_ret
     exact⟨by rw[HF.out]<;>rfl,E5.trans e6⟩
    ·have hs3:(s==3)=false:=by simpa using h3
     have HF:Hid (domC (s,l,x) (s2,m,x2)=false):=Lib.hid (by rw[HD1.out,decide_eq_false (show¬(s=s2∨s=3)by omega)];rfl)
     clear hss h3 HD1;go_wp2;go_ret
     exact⟨by rw[HF.out]<;>rfl,E5⟩
end Go.Proofs.YtokfaggcojokgaaGreat
