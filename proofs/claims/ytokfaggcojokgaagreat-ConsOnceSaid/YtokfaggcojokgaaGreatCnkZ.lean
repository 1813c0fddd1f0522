/-
 Constraints: the document's word whether one dominates another one, whether two split (cutwaterref11.Dominates, Split).
-/
import Derived.Test.YtokfaggcojokgaaGreatCnhZ
namespace Go.Proofs.YtokfaggcojokgaaGreat
set_option maxRecDepth 100000
set_option maxHeartbeats 1000000
open Go.RowKit
set_option linter.unusedVariables false
set_option linter.unusedSimpArgs false
set_option maxHeartbeats 16000000 in
theorem dominates11_calls(k:Nat)(v u:Value)(a b:CR)(w:World)(hv:CnR k w v a)(hu:CnR k w u b)(hk:k≤1000000)(hn:a.2.1.length≤1000)(hn2:b.2.1.length≤1000):
  Calls Tryz.prog 29 #[v,u] w fun e w'=>e= .returned (.bool (domC a b))∧Ext w w':=by
 obtain⟨s,l,x⟩:=a;obtain⟨s2,m,x2⟩:=b
 simp only at hn hn2
 obtain⟨a,n,p,b,a1,n1,c1,a2,n2,c2,rfl,ht,hr⟩:=hv.op;have HT:=Lib.hid ht;have HR:=Lib.hid hr;clear ht hr;obtain⟨ay,ny,py,bby,a1y,n1y,c1y,a2y,n2y,c2y,rfl,hty,hry⟩:=hu.op;have HTy:=Lib.hid hty;have HRy:=Lib.hid hry;clear hty hry
 have hz0:szD ((0:Int):Rat)≤5:=by decide+kernel
 have hzx:=szD_of HR.out.sz;obtain⟨w1,hw1,e1,b1_,b2_,s1⟩:=alloc2 w #[.int .i64 s,.slice a n p,.bool b,.slice a1 n1 c1,.slice a2 n2 c2] #[.int .i64 s2,.slice ay ny py,.bool bby,.slice a1y n1y c1y,.slice a2y n2y c2y] 36 36
 go_enter Tryz.func29,Tryz.ntmps29
 go_wp2_with fail;rw[←hw1];refine(sense11_calls s w1).mono ?_;rintro e w2 ⟨rfl,e2⟩;have E2:=e1.trans e2;have B2:=b1_.ext e2;have Q2:=b2_.ext e2;clear hw1 b1_ b2_ e1 e2
 cases hs:sens s with
 |false=>
  have HD:=Lib.hid (dom_no1 (a:=(s,l,x)) (b:=(s2,m,x2)) hs);clear hs;go_wp2;go_ret
  exact⟨by rw[HD.out]<;>rfl,E2⟩
 |true=>
 have HS:=Lib.hid hs;clear hs;have hy0:=Q2.cell 0;go_wp2_with fail;refine(sense11_calls s2 w2).mono ?_;rintro e w3 ⟨rfl,e3⟩;have E3:=E2.trans e3;have B3:=B2.ext e3;have Q3:=Q2.ext e3;clear hy0 B2 Q2 E2 e3
 cases hs:sens s2 with
 |false=>
  have HD:=Lib.hid (dom_no2 (a:=(s,l,x)) (b:=(s2,m,x2)) hs);clear hs;go_wp2;go_ret
  exact⟨by rw[HD.out]<;>rfl,E3⟩
 |true=>
 have HD:=Lib.hid (dom_eq (a:=(s,l,x)) (b:=(s2,m,x2)) HS.out hs);clear hs HS;obtain⟨fa,hfa⟩:∃c,c=falseC (s,l,x):=⟨_,rfl⟩;obtain⟨cb,hcb⟩:∃c,c=bareC (s2,m,x2):=⟨_,rfl⟩;obtain⟨kp,hkp⟩:∃c,c=keptQ s2 ((0:Int):Rat) x2:=⟨_,rfl⟩;have HFA:=Lib.hid hfa;have HCB:=Lib.hid hcb;have HKP:=Lib.hid hkp;clear hfa hcb hkp;go_wp2_with fail;refine wpQ [PP.val (.agg #[.int .i64 s,.slice a n p,.bool b,.slice a1 n1 c1,.slice a2 n2 c2]),PP.val (.bool fa),PP.val (.bool fa),PP.whn (!fa) (PP.val (.agg #[.int .i64 s2,.slice ay ny py,.bool bby,.slice a1y n1y c1y,.slice a2y n2y c2y])),PP.whn (!fa) (PP.val (.bool cb)),PP.whn (!fa) (PP.val (.bool cb)),PP.whn ((!fa)&&cb) (PP.val (.agg #[.int .i64 s2,.slice ay ny py,.bool bby,.slice a1y n1y c1y,.slice a2y n2y c2y])),PP.whn ((!fa)&&cb) (PP.frQd ((0:Int):Rat)),PP.whn ((!fa)&&cb) (PP.val (.bool kp)),PP.whn (!fa) (PP.val (.bool (cb&&kp))),PP.val (.bool (fa || ((cb&&kp))))] [] [0,1,2,3,4,5,6,7,8,9,10] ?_ ?_
 ·refine⟨?_,?_,?_,?_,?_,?_,?_,?_,?_,?_,?_,trivial⟩
  ·intro f w2 hG hp hl;have hE:Ext w3 w2:=hG;change OpGoal _ _ _ f w2 Ext _;exact og_load (P:=Tryz.prog) _ _ w.heap.size _ _ _ rfl rfl rfl (B3.ext hE) Tryz.underlying36 rfl (by kernel_rfl) rfl
  ·intro f w2 hG hp hl;have hE:Ext w3 w2:=hG;have q15:=tE hp 0 0 rfl rfl rfl;change OpGoal _ _ _ f w2 Ext _;refine oC #[f 0] Tryz.func32 rfl rfl ?_;rw[q15];refine(false11_calls k _ (s,l,x) _ (CnR.mk' (HT.out.ext (E3.trans hE)) (HR.out.ext (E3.trans hE))) hk hn).mono ?_;rintro e w' ⟨rfl,h2⟩
   exact⟨_,rfl,h2,by rw[HFA.out]<;>rfl⟩
  ·intro f w2 hG hp hl;have q16:=tE hp 0 1 rfl rfl rfl;exact⟨_,rfl,Ext.refl _,q16⟩
  ·intro f w2 hG hp hl;have hE:Ext w3 w2:=hG;have qg:=tellV hp 0 2 rfl rfl (fun h=>by cases h);refine og_when (p:=(PP.val (.agg #[.int .i64 s2,.slice ay ny py,.bool bby,.slice a1y n1y c1y,.slice a2y n2y c2y]):PP _).p) rfl (when_f qg) ?_;intro hg0;clear qg;change OpGoal _ _ _ f w2 Ext _;exact og_load (P:=Tryz.prog) _ _ (w.heap.size+1) _ _ _ rfl rfl rfl (Q3.ext hE) Tryz.underlying36 rfl (by kernel_rfl) rfl
  ·intro f w2 hG hp hl;have hE:Ext w3 w2:=hG;have qg:=tellV hp 1 2 rfl rfl (fun h=>by cases h);refine og_when (p:=(PP.val (.bool cb):PP _).p) rfl (when_f qg) ?_;intro hg0;clear qg
   have q18:f 3= .agg #[.int .i64 s2,.slice ay ny py,.bool bby,.slice a1y n1y c1y,.slice a2y n2y c2y]:=(tellV hp 0 3 rfl rfl (fun h=>by cases h)).1 hg0
   change OpGoal _ _ _ f w2 Ext _;refine oC #[f 3] Tryz.func70 rfl rfl ?_;rw[q18];refine(bare11_calls k _ (s2,m,x2) _ (CnR.mk' (HTy.out.ext (E3.trans hE)) (HRy.out.ext (E3.trans hE))) hk hn2).mono ?_;rintro e w' ⟨rfl,h2⟩
   exact⟨_,rfl,h2,by rw[HCB.out]<;>rfl⟩
  ·intro f w2 hG hp hl;have qg:=tellV hp 2 2 rfl rfl (fun h=>by cases h);refine og_when (p:=(PP.val (.bool cb):PP _).p) rfl (when_f qg) ?_;intro hg0;clear qg
   have q19:f 4= .bool cb:=(tellV hp 0 4 rfl rfl (fun h=>by cases h)).1 hg0
   exact⟨_,rfl,Ext.refl _,q19⟩
  ·intro f w2 hG hp hl;have hE:Ext w3 w2:=hG;have qg:=tellV hp 0 5 rfl rfl (fun h=>by cases h);refine og_when (p:=(PP.val (.agg #[.int .i64 s2,.slice ay ny py,.bool bby,.slice a1y n1y c1y,.slice a2y n2y c2y]):PP _).p) rfl (when_in qg) ?_;intro hg0;clear qg;have hg1:=(Bool.and_eq_true_iff.1 hg0).1;change OpGoal _ _ _ f w2 Ext _;exact og_load (P:=Tryz.prog) _ _ (w.heap.size+1) _ _ _ rfl rfl rfl (Q3.ext hE) Tryz.underlying36 rfl (by kernel_rfl) rfl
  ·intro f w2 hG hp hl;have hE:Ext w3 w2:=hG;have hS:=hE.size;have qg:=tellV hp 0 5 rfl rfl (fun h=>by cases h);refine og_when (p:=(PP.frQd ((0:Int):Rat):PP _).p) rfl (when_in qg) ?_;intro hg0;clear qg;have hg1:=(Bool.and_eq_true_iff.1 hg0).1;change OpGoal _ _ _ f w2 Ext _;refine oC #[.int .i64 0] Tryz.func58 rfl rfl ?_;refine(rqsmall3_calls 0 _ (by omega) (by omega)).mono ?_;rintro e w' ⟨v',rfl,h1,h2⟩;exact⟨v',rfl,h2,h1.mono hS⟩
  ·intro f w2 hG hp hl;have hE:Ext w3 w2:=hG;have hS:=hE.size;have qg:=tellV hp 3 5 rfl rfl (fun h=>by cases h);refine og_when (p:=(PP.val (.bool kp):PP _).p) rfl (when_in qg) ?_;intro hg0;clear qg;have hg1:=(Bool.and_eq_true_iff.1 hg0).1
   have q21:f 6= .agg #[.int .i64 s2,.slice ay ny py,.bool bby,.slice a1y n1y c1y,.slice a2y n2y c2y]:=(tellV hp 0 6 rfl rfl (fun h=>by cases h)).1 hg0
   have q22:=(tellV hp 1 7 rfl rfl (fun _=>hE)).1 hg0;change OpGoal _ _ _ f w2 Ext _;refine oC #[f 6,f 7] Tryz.func93 rfl rfl ?_;rw[q21];refine(kept11_calls k 5 _ _ (s2,m,x2) ((0:Int):Rat) _ (CnR.mk' (HTy.out.ext (E3.trans hE)) (HRy.out.ext (E3.trans hE))) q22.cq hk hz0 (by omega)).mono ?_;rintro e w' ⟨rfl,h2⟩
   exact⟨_,rfl,h2,by rw[HKP.out]<;>rfl⟩
  ·intro f w2 hG hp hl;have qg:=tellV hp 2 2 rfl rfl (fun h=>by cases h);refine og_when (p:=(PP.val (.bool (cb&&kp)):PP _).p) rfl (when_f qg) ?_;intro hg0;clear qg
   have q20:f 5= .bool cb:=(tellV hp 0 5 rfl rfl (fun h=>by cases h)).1 hg0
   have q23:=tellV hp 1 8 rfl rfl (fun h=>by cases h);change OpGoal _ _ _ f w2 Ext _;exact og_pickA (P:=Tryz.prog) _ _ rfl rfl q20 (fun h=>q23.1 (by rw[hg0,h];rfl)) rfl
  ·intro f w2 hG hp hl;have q17:=tE hp 0 2 rfl rfl rfl;have q24:=tellV hp 1 9 rfl rfl (fun h=>by cases h);change OpGoal _ _ _ f w2 Ext _;exact og_pickO (P:=Tryz.prog) _ _ rfl rfl q17 (fun h=>q24.1 (by rw[h];rfl)) rfl
 ·intro f w4 hG hp;have hE:Ext w3 w4:=ChgS.nil hG
  have q25:f 10= .bool (fa || ((cb&&kp))):=endV hp 10 (by decide) rfl (fun h=>by cases h)
  try simp only[q25]
  clear hp;have E4:=E3.trans hE;have B4:=B3.ext hE;have Q4:=Q3.ext hE;clear B3 Q3 hE E3
  have HD1:Hid (domC (s,l,x) (s2,m,x2)=((fa || (cb&&kp)) || (likeC (s,l,x) (s2,m,x2)&&(decide (s=s2∨s=3)&&keptQ s2 x x2)))):=Lib.hid (by rw[HD.out,←HCB.out,←HFA.out,HKP.out];rfl)
  obtain⟨r,hr⟩:∃r,r=(fa || (cb&&kp)):=⟨_,rfl⟩;rw[←hr];rw[←hr]at HD1;clear hr HD HCB HFA HKP
  cases r with
  |true=>
   go_wp2;go_ret
   exact⟨by rw[HD1.out]<;>rfl,E4⟩
  |false=>
   have hb0:=B4.cell 0;have hb1:=B4.cell 1;have hb2:=B4.cell 2;have hb3:=B4.cell 3;have hb4:=B4.cell 4;have hy0:=Q4.cell 0;have hy1:=Q4.cell 1;have hy2:=Q4.cell 2;have hy3:=Q4.cell 3;have hy4:=Q4.cell 4;go_wp2_with fail;refine(alike11_calls k _ _ (s,l,x) (s2,m,x2) w4 (CnR.mk' (HT.out.ext E4) (HR.out.ext E4)) (CnR.mk' (HTy.out.ext E4) (HRy.out.ext E4)) hk hn hn2).mono ?_;rintro e w5 ⟨rfl,e5⟩;have E5:=E4.trans e5;have B5:=B4.ext e5;have Q5:=Q4.ext e5;clear hb0 hb1 hb2 hb3 hb4 hy0 hy1 hy2 hy3 hy4 B4 Q4 E4 e5;obtain⟨la,hla⟩:∃la,la=likeC (s,l,x) (s2,m,x2):=⟨_,rfl⟩;rw[←hla]at HD1 ⊢;clear hla
   cases la with
   |false=>
    go_wp2;go_ret
    exact⟨by rw[HD1.out]<;>rfl,E5⟩
   |true=>
    have hb0:=B5.cell 0;have hy0:=Q5.cell 0;obtain⟨kq,hkq⟩:∃kq,kq=keptQ s2 x x2:=⟨_,rfl⟩;rw[←hkq]at HD1;have HKQ:=Lib.hid hkq;clear hkq
    by_cases hss:s=s2
    ·have hse:(s !=s2)=false:=by simpa using hss
     have HF:Hid (domC (s,l,x) (s2,m,x2)=kq):=Lib.hid (by rw[HD1.out,decide_eq_true (show s=s2∨s=3 from .inl hss)];rfl)
     clear hss HD1;go_wp2_with fail;refine wpQ [PP.val (.agg #[.int .i64 s2,.slice ay ny py,.bool bby,.slice a1y n1y c1y,.slice a2y n2y c2y]),PP.val (.pointer (some ⟨w.heap.size,2,none⟩)),PP.val (.agg #[.bool b,.slice a1 n1 c1,.slice a2 n2 c2]),PP.frQd x,PP.val (.bool kq),PP.val (.bool kq)] [] [0,1,2,3,4,5] ?_ ?_
     ·refine⟨?_,?_,?_,?_,?_,?_,trivial⟩
      ·intro f w2 hG hp hl;have hE:Ext w5 w2:=hG;change OpGoal _ _ _ f w2 Ext _;exact og_load (P:=Tryz.prog) _ _ (w.heap.size+1) _ _ _ rfl rfl rfl (Q5.ext hE) Tryz.underlying36 rfl (by kernel_rfl) rfl
      ·intro f w2 hG hp hl;simp only[OpGoal];go_simp;exact⟨_,rfl,Ext.refl _,rfl⟩
      ·intro f w2 hG hp hl;have hE:Ext w5 w2:=hG;have q43:=tE hp 0 1 rfl rfl rfl;have hbx:=B5.ext hE;have hcell0:=hbx.cell 0;have hcell1:=hbx.cell 1;have hcell2:=hbx.cell 2;have hcell3:=hbx.cell 3;have hcell4:=hbx.cell 4;simp only[OpGoal];go_simp;exact⟨_,rfl,Ext.refl _,rfl⟩
      ·intro f w2 hG hp hl;have hE:Ext w5 w2:=hG;have hS:=hE.size;have q44:=tE hp 0 2 rfl rfl rfl;change OpGoal _ _ _ f w2 Ext _;refine oC #[f 2] Tryz.func55 rfl rfl ?_;rw[q44];refine(rqofR_calls _ x k _ (HR.out.ext (E5.trans hE)) hk).mono ?_;rintro e w' ⟨v',rfl,h1,h2⟩;exact⟨v',rfl,h2,h1.mono hS⟩
      ·intro f w2 hG hp hl;have hE:Ext w5 w2:=hG;have hS:=hE.size;have q42:=tE hp 0 0 rfl rfl rfl;have q45:=tellV hp 1 3 rfl rfl (fun _=>hE);change OpGoal _ _ _ f w2 Ext _;refine oC #[f 0,f 3] Tryz.func93 rfl rfl ?_;rw[q42];refine(kept11_calls k (5*k) _ _ (s2,m,x2) x _ (CnR.mk' (HTy.out.ext (E5.trans hE)) (HRy.out.ext (E5.trans hE))) q45.cq hk hzx (by omega)).mono ?_;rintro e w' ⟨rfl,h2⟩
       exact⟨_,rfl,h2,by rw[HKQ.out]<;>rfl⟩
      ·intro f w2 hG hp hl;have q46:=tE hp 0 4 rfl rfl rfl;exact⟨_,rfl,Ext.refl _,q46⟩
     ·intro f w6 hG hp;have hE:Ext w5 w6:=ChgS.nil hG
      have q4:f 5= .bool kq:=endV hp 5 (by decide) rfl (fun h=>by cases h)
      try simp only[q4]
      clear hp;have X:=E5.trans hE;clear B5 Q5 hE;go_wp2;go_ret
      exact⟨by rw[HF.out]<;>rfl,X⟩
    have hse:(s !=s2)=true:=by rw[bne_iff_ne];exact hss
    by_cases h3:s=3
    ·have hs3:(s !=3)=false:=by simpa using h3
     have HF:Hid (domC (s,l,x) (s2,m,x2)=kq):=Lib.hid (by rw[HD1.out,decide_eq_true (show s=s2∨s=3 from .inr h3)];rfl)
     clear hss h3 HD1;go_wp2_with fail;refine wpQ [PP.val (.agg #[.int .i64 s2,.slice ay ny py,.bool bby,.slice a1y n1y c1y,.slice a2y n2y c2y]),PP.val (.pointer (some ⟨w.heap.size,2,none⟩)),PP.val (.agg #[.bool b,.slice a1 n1 c1,.slice a2 n2 c2]),PP.frQd x,PP.val (.bool kq),PP.val (.bool kq)] [] [0,1,2,3,4,5] ?_ ?_
     ·refine⟨?_,?_,?_,?_,?_,?_,trivial⟩
      ·intro f w2 hG hp hl;have hE:Ext w5 w2:=hG;change OpGoal _ _ _ f w2 Ext _;exact og_load (P:=Tryz.prog) _ _ (w.heap.size+1) _ _ _ rfl rfl rfl (Q5.ext hE) Tryz.underlying36 rfl (by kernel_rfl) rfl
      ·intro f w2 hG hp hl;simp only[OpGoal];go_simp;exact⟨_,rfl,Ext.refl _,rfl⟩
      ·intro f w2 hG hp hl;have hE:Ext w5 w2:=hG;have q43:=tE hp 0 1 rfl rfl rfl;have hbx:=B5.ext hE;have hcell0:=hbx.cell 0;have hcell1:=hbx.cell 1;have hcell2:=hbx.cell 2;have hcell3:=hbx.cell 3;have hcell4:=hbx.cell 4;simp only[OpGoal];go_simp;exact⟨_,rfl,Ext.refl _,rfl⟩
      ·intro f w2 hG hp hl;have hE:Ext w5 w2:=hG;have hS:=hE.size;have q44:=tE hp 0 2 rfl rfl rfl;change OpGoal _ _ _ f w2 Ext _;refine oC #[f 2] Tryz.func55 rfl rfl ?_;rw[q44];refine(rqofR_calls _ x k _ (HR.out.ext (E5.trans hE)) hk).mono ?_;rintro e w' ⟨v',rfl,h1,h2⟩;exact⟨v',rfl,h2,h1.mono hS⟩
      ·intro f w2 hG hp hl;have hE:Ext w5 w2:=hG;have hS:=hE.size;have q42:=tE hp 0 0 rfl rfl rfl;have q45:=tellV hp 1 3 rfl rfl (fun _=>hE);change OpGoal _ _ _ f w2 Ext _;refine oC #[f 0,f 3] Tryz.func93 rfl rfl ?_;rw[q42];refine(kept11_calls k (5*k) _ _ (s2,m,x2) x _ (CnR.mk' (HTy.out.ext (E5.trans hE)) (HRy.out.ext (E5.trans hE))) q45.cq hk hzx (by omega)).mono ?_;rintro e w' ⟨rfl,h2⟩
       exact⟨_,rfl,h2,by rw[HKQ.out]<;>rfl⟩
      ·intro f w2 hG hp hl;have q46:=tE hp 0 4 rfl rfl rfl;exact⟨_,rfl,Ext.refl _,q46⟩
     ·intro f w6 hG hp;have hE:Ext w5 w6:=ChgS.nil hG
      have q4:f 5= .bool kq:=endV hp 5 (by decide) rfl (fun h=>by cases h)
      try simp only[q4]
      clear hp;have X:=E5.trans hE;clear B5 Q5 hE;go_wp2;go_ret
      exact⟨by rw[HF.out]<;>rfl,X⟩
    ·have hs3:(s !=3)=true:=by rw[bne_iff_ne];exact h3
     have HF:Hid (domC (s,l,x) (s2,m,x2)=false):=Lib.hid (by rw[HD1.out,decide_eq_false (show¬(s=s2∨s=3)by omega)];rfl)
     clear hss h3 HD1;go_wp2;go_ret
     exact⟨by rw[HF.out]<;>rfl,E5⟩
theorem splitC_no{a b:CR}{bs:List Bool}(h1:¬(a.1=1∧b.1=2))(h2:¬(a.1=2∧b.1=1)):splitC a b bs=false:=by
 unfold splitC;rw[if_neg h1,if_neg h2]
theorem splitLH_like{a b:CR}{bs:List Bool}(h:likeC a b=false):splitLH a b bs=false∧splitLH b a bs=false:=by
 have h2:likeC b a=false:=by
  cases hb:likeC b a
  ·rfl
  ·rw[likeC_iff.2 (likeC_iff.1 hb).symm]at h;cases h
 constructor
 ·unfold splitLH;rw[h];rfl
 ·unfold splitLH;rw[h2];rfl
theorem splitLH_doc{a b lo hi:CR}{bs:List Bool}(h:likeC a b=true)(hlh:(lo=a∧hi=b)∨(lo=b∧hi=a)):splitLH lo hi bs=((wholeT (mkV a.2.1) bs&&isW lo.2.2)&&(cmpR (hi.2.2 - lo.2.2) ((1:Int):Rat)==0)):=by
 have e:=likeC_iff.1 h;rw[splitLH_eq,cmpR_zero,cmpR_zero]
 have h1:likeC lo hi=true:=by
  rcases hlh with⟨rfl,rfl⟩ |⟨rfl,rfl⟩
  ·exact h
  ·exact likeC_iff.2 e.symm
 have h2:mkV lo.2.1=mkV a.2.1:=by
  rcases hlh with⟨rfl,rfl⟩ |⟨rfl,rfl⟩
  ·rfl
  ·exact e.symm
 rw[h1,h2,Bool.true_and]
 have h3:decide (hi.2.2=lo.2.2+((1:Int):Rat))=decide (hi.2.2 - lo.2.2=((1:Int):Rat)):=by
  rw[decide_eq_decide]
  constructor<;>intro h<;>grind
 rw[h3]
set_option maxHeartbeats 32000000 in
theorem split11_calls(k:Nat)(v u u2:Value)(a b:CR)(bs:List Bool)(w:World)(hv:CnR k w v a)(hu:CnR k w u b)(hu2:BL w u2 bs)(hk:k≤900)(hn:a.2.1.length≤1000)(hn2:b.2.1.length≤1000)
  (hr: -9223372036854775808≤b.1∧b.1≤9223372036854775807):
  Calls Tryz.prog 31 #[v,u,u2] w fun e w'=>e= .returned (.bool (splitC a b bs))∧Ext w w':=by
 obtain⟨s,l,x⟩:=a;obtain⟨s2,m,x2⟩:=b
 simp only at hn hn2 hr
 obtain⟨a,n,p,b,a1,n1,c1,a2,n2,c2,rfl,ht,hr⟩:=hv.op;have HT:=Lib.hid ht;have HR:=Lib.hid hr;clear ht hr;obtain⟨ay,ny,py,bby,a1y,n1y,c1y,a2y,n2y,c2y,rfl,hty,hry⟩:=hu.op;have HTy:=Lib.hid hty;have HRy:=Lib.hid hry;clear hty hry;have HU:=Lib.hid hu2;clear hu2
 have lim:68719476736≤LIM:=by rw[LIM_eq];omega
 have hz1:szD ((1:Int):Rat)≤5:=by decide+kernel
 have hzx:=szD_of HR.out.sz;have hzx2:=szD_of HRy.out.sz;have hml:l.length*(k+1)≤1000*901:=Nat.mul_le_mul hn (by omega);obtain⟨hr1,hr2⟩:=hr
 by_cases hA:s=1∧s2=2
 ·obtain⟨rfl,rfl⟩:=hA
  have HSP:Hid (splitC (1,l,x) (2,m,x2) bs=splitLH (1,l,x) (2,m,x2) bs):=Lib.hid (if_pos ⟨rfl,rfl⟩)
  obtain⟨w1,hw1,e1,b1_,b2_,s1⟩:=alloc2 w #[.int .i64 1,.slice a n p,.bool b,.slice a1 n1 c1,.slice a2 n2 c2] #[.int .i64 2,.slice ay ny py,.bool bby,.slice a1y n1y c1y,.slice a2y n2y c2y] 36 36
  go_enter Tryz.func31,Tryz.ntmps31
  go_wp2_with fail;rw[←hw1];clear hw1;refine wp_region_alt [⟨2,36,5,#[.int .i64 0,.slice none 0 0,.bool false,.slice none 0 0,.slice none 0 0]⟩,⟨3,36,5,#[.int .i64 0,.slice none 0 0,.bool false,.slice none 0 0,.slice none 0 0]⟩] [⟨4,⟨2,36,5,#[.int .i64 0,.slice none 0 0,.bool false,.slice none 0 0,.slice none 0 0]⟩,PT.val (.agg #[.int .i64 1,.slice a n p,.bool b,.slice a1 n1 c1,.slice a2 n2 c2])⟩,⟨5,⟨3,36,5,#[.int .i64 0,.slice none 0 0,.bool false,.slice none 0 0,.slice none 0 0]⟩,PT.val (.agg #[.int .i64 2,.slice ay ny py,.bool bby,.slice a1y n1y c1y,.slice a2y n2y c2y])⟩] [PT.val (.agg #[.int .i64 1,.slice a n p,.bool b,.slice a1 n1 c1,.slice a2 n2 c2]),PT.val (.agg #[.int .i64 2,.slice ay ny py,.bool bby,.slice a1y n1y c1y,.slice a2y n2y c2y]),PT.any,PT.any,PT.any,PT.any]
   (by kernel_rfl) (by kernel_rfl) (fun f=>(by simp only[fillR,fillL,List.setIfInBounds_toArray,List.set_cons_succ,List.set_cons_zero,Nat.reduceAdd];rfl)) ?_ ?_ ?_ ?_ ?_
  ·intro x hx;simp only[List.mem_cons,List.not_mem_nil,or_false]at hx;rcases hx with rfl |rfl
   ·exact⟨rfl,rfl,by decide,by decide,rfl,rfl⟩
   ·exact⟨rfl,rfl,by decide,by decide,rfl,rfl⟩
  ·intro x hx;simp only[List.mem_cons,List.not_mem_nil,or_false]at hx;rcases hx with rfl |rfl<;>exact ⟨rfl,rfl,by simp⟩
  ·intro x hx y hy h;simp only[List.mem_cons,List.not_mem_nil,or_false]at hx hy;rcases hx with rfl |rfl<;>rcases hy with rfl |rfl
   ·exact absurd rfl h
   ·show 2≠3;decide
   ·show 3≠2;decide
   ·exact absurd rfl h
  ·refine⟨?_,?_,?_,?_,?_,?_,trivial⟩
   ·intro f w2 hE hp;have hS:=hE.size;change OpGoal _ _ _ f w2 Ext _;exact og_load (P:=Tryz.prog) _ _ w.heap.size _ _ _ rfl rfl rfl (b1_.ext hE) Tryz.underlying36 rfl (by kernel_rfl) rfl
   ·intro f w2 hE hp;have hS:=hE.size;change OpGoal _ _ _ f w2 Ext _;exact og_load (P:=Tryz.prog) _ _ (w.heap.size+1) _ _ _ rfl rfl rfl (b2_.ext hE) Tryz.underlying36 rfl (by kernel_rfl) rfl
   ·intro f w2 hE hp;have hS:=hE.size;change OpGoal _ _ _ f w2 (fun a b=>b=a.alloc _) _;exact og_alloc (P:=Tryz.prog) _ _ (.agg #[.int .i64 0,.slice none 0 0,.bool false,.slice none 0 0,.slice none 0 0]) rfl rfl (by kernel_rfl) rfl
   ·intro f w2 hE hp;have hS:=hE.size;change OpGoal _ _ _ f w2 (fun a b=>b=a.alloc _) _;exact og_alloc (P:=Tryz.prog) _ _ (.agg #[.int .i64 0,.slice none 0 0,.bool false,.slice none 0 0,.slice none 0 0]) rfl rfl (by kernel_rfl) rfl
   ·intro f w2 hE hp;have hS:=hE.size
    have q27:f 0= .agg #[.int .i64 1,.slice a n p,.bool b,.slice a1 n1 c1,.slice a2 n2 c2]:=tellT hp 1 0 rfl rfl rfl
    intro g old hfa hSg hbx hsz hno;change OpGoal _ _ _ f w2 (Chg g) _;exact og_storeT (P:=Tryz.prog) (PT.val (.agg #[.int .i64 1,.slice a n p,.bool b,.slice a1 n1 c1,.slice a2 n2 c2])) 5 _ _ _ g _ old _ rfl rfl hfa q27 hbx (by kernel_rfl) hsz rfl (all5 rfl rfl rfl rfl rfl) hSg (show 36≠172 by decide) (show 36≠3 by decide) hno (rfl) rfl
   ·intro f w2 hE hp;have hS:=hE.size
    have q28:f 1= .agg #[.int .i64 2,.slice ay ny py,.bool bby,.slice a1y n1y c1y,.slice a2y n2y c2y]:=tellT hp 1 1 rfl rfl rfl
    intro g old hfa hSg hbx hsz hno;change OpGoal _ _ _ f w2 (Chg g) _;exact og_storeT (P:=Tryz.prog) (PT.val (.agg #[.int .i64 2,.slice ay ny py,.bool bby,.slice a1y n1y c1y,.slice a2y n2y c2y])) 5 _ _ _ g _ old _ rfl rfl hfa q28 hbx (by kernel_rfl) hsz rfl (all5 rfl rfl rfl rfl rfl) hSg (show 36≠172 by decide) (show 36≠3 by decide) hno (rfl) rfl
  ·intro f w4 hE hp hal;obtain⟨ga7,ca7,fa7,la7,ba7,na7,pa7⟩:=hal ⟨2,36,5,#[.int .i64 0,.slice none 0 0,.bool false,.slice none 0 0,.slice none 0 0]⟩ (by simp) (by decide)
   dsimp only at fa7 la7 ba7 na7
   have za7:=pa7 ⟨4,⟨2,36,5,#[.int .i64 0,.slice none 0 0,.bool false,.slice none 0 0,.slice none 0 0]⟩,PT.val (.agg #[.int .i64 1,.slice a n p,.bool b,.slice a1 n1 c1,.slice a2 n2 c2])⟩ (by simp) (by show 4<6;decide) rfl rfl;clear pa7;obtain⟨ga8,ca8,fa8,la8,ba8,na8,pa8⟩:=hal ⟨3,36,5,#[.int .i64 0,.slice none 0 0,.bool false,.slice none 0 0,.slice none 0 0]⟩ (by simp) (by decide)
   dsimp only at fa8 la8 ba8 na8
   have za8:=pa8 ⟨5,⟨3,36,5,#[.int .i64 0,.slice none 0 0,.bool false,.slice none 0 0,.slice none 0 0]⟩,PT.val (.agg #[.int .i64 2,.slice ay ny py,.bool bby,.slice a1y n1y c1y,.slice a2y n2y c2y])⟩ (by simp) (by show 5<6;decide) rfl rfl;clear pa8;clear hp hal
   cases za7
   cases za8
   have X4:=e1.trans hE;have P3:=b1_.ext hE;have P4:=b2_.ext hE;have T7:=ba7;have T8:=ba8;clear ba7 ba8 b1_ b2_ hE;have hb0:=P3.cell 0;go_wp2_with fail;clear hb0;refine wp_region_alt [⟨6,81,3,#[.bool false,.slice none 0 0,.slice none 0 0]⟩,⟨7,81,3,#[.bool false,.slice none 0 0,.slice none 0 0]⟩] [⟨8,⟨6,81,3,#[.bool false,.slice none 0 0,.slice none 0 0]⟩,PT.frQd x⟩,⟨9,⟨7,81,3,#[.bool false,.slice none 0 0,.slice none 0 0]⟩,PT.frQd x2⟩] [PT.val (.pointer (some ⟨ga7,2,none⟩)),PT.val (.agg #[.bool b,.slice a1 n1 c1,.slice a2 n2 c2]),PT.frQd x,PT.val (.pointer (some ⟨ga8,2,none⟩)),PT.val (.agg #[.bool bby,.slice a1y n1y c1y,.slice a2y n2y c2y]),PT.frQd x2,PT.any,PT.any,PT.any,PT.any]
    (by kernel_rfl) (by kernel_rfl) (fun f=>(by simp only[fillR,fillL,List.setIfInBounds_toArray,List.set_cons_succ,List.set_cons_zero,Nat.reduceAdd];rfl)) ?_ ?_ ?_ ?_ ?_
   ·intro x hx;simp only[List.mem_cons,List.not_mem_nil,or_false]at hx;rcases hx with rfl |rfl
    ·exact⟨rfl,rfl,by decide,by decide,rfl,rfl⟩
    ·exact⟨rfl,rfl,by decide,by decide,rfl,rfl⟩
   ·intro x hx;simp only[List.mem_cons,List.not_mem_nil,or_false]at hx;rcases hx with rfl |rfl<;>exact ⟨rfl,rfl,by simp⟩
   ·intro x hx y hy h;simp only[List.mem_cons,List.not_mem_nil,or_false]at hx hy;rcases hx with rfl |rfl<;>rcases hy with rfl |rfl
    ·exact absurd rfl h
    ·show 6≠7;decide
    ·show 7≠6;decide
    ·exact absurd rfl h
   ·refine⟨?_,?_,?_,?_,?_,?_,?_,?_,?_,?_,trivial⟩
    ·intro f w5 hE hp;have hS:=hE.size;change OpGoal _ _ _ f w5 Ext _;simp only[OpGoal];go_simp;exact⟨_,rfl,Ext.refl _,rfl⟩
    ·intro f w5 hE hp;have hS:=hE.size
     have q34:f 0= .pointer (some ⟨ga7,2,none⟩):=tellT hp 0 0 rfl rfl rfl
     have hbx:=T7.ext hE;have hcell0:=hbx.cell 0;have hcell1:=hbx.cell 1;have hcell2:=hbx.cell 2;have hcell3:=hbx.cell 3;have hcell4:=hbx.cell 4;change OpGoal _ _ _ f w5 Ext _;simp only[OpGoal];go_simp;exact⟨_,rfl,Ext.refl _,rfl⟩
    ·intro f w5 hE hp;have hS:=hE.size
     have q35:f 1= .agg #[.bool b,.slice a1 n1 c1,.slice a2 n2 c2]:=tellT hp 0 1 rfl rfl rfl
     change OpGoal _ _ _ f w5 Ext _;refine oC #[f 1] Tryz.func55 rfl rfl ?_;rw[q35];refine(rqofR_calls _ x k _ (HR.out.ext (X4.trans hE)) (by omega)).mono ?_;rintro e w' ⟨v',rfl,h1,h2⟩;exact⟨v',rfl,h2,h1.mono hS⟩
    ·intro f w5 hE hp;have hS:=hE.size;change OpGoal _ _ _ f w5 Ext _;simp only[OpGoal];go_simp;exact⟨_,rfl,Ext.refl _,rfl⟩
    ·intro f w5 hE hp;have hS:=hE.size
     have q37:f 3= .pointer (some ⟨ga8,2,none⟩):=tellT hp 0 3 rfl rfl rfl
     have hbx:=T8.ext hE;have hcell0:=hbx.cell 0;have hcell1:=hbx.cell 1;have hcell2:=hbx.cell 2;have hcell3:=hbx.cell 3;have hcell4:=hbx.cell 4;change OpGoal _ _ _ f w5 Ext _;simp only[OpGoal];go_simp;exact⟨_,rfl,Ext.refl _,rfl⟩
    ·intro f w5 hE hp;have hS:=hE.size
     have q38:f 4= .agg #[.bool bby,.slice a1y n1y c1y,.slice a2y n2y c2y]:=tellT hp 0 4 rfl rfl rfl
     change OpGoal _ _ _ f w5 Ext _;refine oC #[f 4] Tryz.func55 rfl rfl ?_;rw[q38];refine(rqofR_calls _ x2 k _ (HRy.out.ext (X4.trans hE)) (by omega)).mono ?_;rintro e w' ⟨v',rfl,h1,h2⟩;exact⟨v',rfl,h2,h1.mono hS⟩
    ·intro f w5 hE hp;have hS:=hE.size;change OpGoal _ _ _ f w5 (fun a b=>b=a.alloc _) _;exact og_alloc (P:=Tryz.prog) _ _ (.agg #[.bool false,.slice none 0 0,.slice none 0 0]) rfl rfl (by kernel_rfl) rfl
    ·intro f w5 hE hp;have hS:=hE.size;change OpGoal _ _ _ f w5 (fun a b=>b=a.alloc _) _;exact og_alloc (P:=Tryz.prog) _ _ (.agg #[.bool false,.slice none 0 0,.slice none 0 0]) rfl rfl (by kernel_rfl) rfl
    ·intro f w5 hE hp;have hS:=hE.size;have q36:=tellT hp 1 2 rfl rfl rfl;intro g old hfa hSg hbx hsz hno;change OpGoal _ _ _ f w5 (Chg g) _;obtain⟨cells,hv,hcs,hc1,hcn⟩:=FrQd.parts q36;exact og_storeT (P:=Tryz.prog) (PT.frQd x) 3 _ _ _ g _ old cells rfl rfl hfa hv hbx (by rw[hcs];kernel_rfl) hsz hcs hc1 hSg (show 81≠172 by decide) (show 81≠3 by decide) hno rfl (hv▸q36)
    ·intro f w5 hE hp;have hS:=hE.size;have q39:=tellT hp 1 5 rfl rfl rfl;intro g old hfa hSg hbx hsz hno;change OpGoal _ _ _ f w5 (Chg g) _;obtain⟨cells,hv,hcs,hc1,hcn⟩:=FrQd.parts q39;exact og_storeT (P:=Tryz.prog) (PT.frQd x2) 3 _ _ _ g _ old cells rfl rfl hfa hv hbx (by rw[hcs];kernel_rfl) hsz hcs hc1 hSg (show 81≠172 by decide) (show 81≠3 by decide) hno rfl (hv▸q39)
   ·intro f w5 hE hp hal;obtain⟨ga9,ca9,fa9,la9,ba9,na9,pa9⟩:=hal ⟨6,81,3,#[.bool false,.slice none 0 0,.slice none 0 0]⟩ (by simp) (by decide)
    dsimp only at fa9 la9 ba9 na9
    have za9:=pa9 ⟨8,⟨6,81,3,#[.bool false,.slice none 0 0,.slice none 0 0]⟩,PT.frQd x⟩ (by simp) (by show 8<10;decide) rfl rfl;clear pa9;obtain⟨ga10,ca10,fa10,la10,ba10,na10,pa10⟩:=hal ⟨7,81,3,#[.bool false,.slice none 0 0,.slice none 0 0]⟩ (by simp) (by decide)
    dsimp only at fa10 la10 ba10 na10
    have za10:=pa10 ⟨9,⟨7,81,3,#[.bool false,.slice none 0 0,.slice none 0 0]⟩,PT.frQd x2⟩ (by simp) (by show 9<10;decide) rfl rfl;clear pa10;clear hp hal;obtain⟨lb,la1,ln1,lc1,la2,ln2,lc2,hlv,hlq⟩:=FrQd.opn za9;obtain⟨ub,ua1,un1,uc1,ua2,un2,uc2,huv,huq⟩:=FrQd.opn za10
    cases hlv
    cases huv
    have HLQ:=Lib.hid hlq;have HUQ:=Lib.hid huq;have X5:=X4.trans hE;have P5:=P3.ext hE;have Q5:=P4.ext hE;clear hlq huq za9 za10 T7 T8 P3 P4;have hp0:=P5.cell 0;have hp1:=P5.cell 1;have hp2:=P5.cell 2;have hp3:=P5.cell 3;have hp4:=P5.cell 4;have hq0:=Q5.cell 0;have hq1:=Q5.cell 1;have hq2:=Q5.cell 2;have hq3:=Q5.cell 3;have hq4:=Q5.cell 4;go_wp2_with fail;refine(alike11_calls k _ _ (1,l,x) (2,m,x2) w5 (CnR.mk' (HT.out.ext X5) (HR.out.ext X5)) (CnR.mk' (HTy.out.ext X5) (HRy.out.ext X5)) (by omega) hn hn2).mono ?_;rintro e w6 ⟨rfl,e6⟩;have X6:=X5.trans e6;have P6:=P5.ext e6;have hq9:=ba9.ext e6;have hq10:=ba10.ext e6;clear hp0 hp1 hp2 hp3 hp4 hq0 hq1 hq2 hq3 hq4;obtain⟨lk,hlk⟩:∃c,c=likeC (1,l,x) (2,m,x2):=⟨_,rfl⟩;rw[←hlk];have HLK:=Lib.hid hlk;clear hlk
    cases lk with
    |false=>
     have HF:Hid (splitC (1,l,x) (2,m,x2) bs=false):=Lib.hid (by rw[HSP.out];exact(splitLH_like HLK.out.symm).1)
     go_wp2;go_ret
     exact⟨by rw[HF.out]<;>rfl,X6⟩
    |true=>
     have HD:=Lib.hid (splitLH_doc (bs:=bs) HLK.out.symm (.inl ⟨rfl,rfl⟩));have hp1:=P6.cell 1;have hl0:=hq9.cell 0;have hl1:=hq9.cell 1;have hl2:=hq9.cell 2;have hu0:=hq10.cell 0;have hu1:=hq10.cell 1;have hu2:=hq10.cell 2;go_wp2_with fail;refine(make5_calls k _ l w6 (HT.out.ext X6) (by omega) hn).mono ?_;rintro e w7 ⟨v7,rfl,h7,e7⟩;have H7:=Lib.hid h7;have e67:=e6.trans e7;clear h7 hp1 hl0 hl1 hl2 hu0 hu1 hu2 hq9 hq10;go_wp2_with fail;refine(whole11_calls (l.length*(k+1)+1) _ _ (mkV l) bs w7 (H7.out.tl (by omega)) (HU.out.ext (X6.trans e7)) (by omega) (fun y hy=>(mkV_nf l).1.2 y hy)).mono ?_;rintro e w8 ⟨rfl,e8⟩;have e58:=e67.trans e8;have X8:=X5.trans e58;have hq9:=ba9.ext e58;have hq10:=ba10.ext e58;have hl0:=hq9.cell 0;have hl1:=hq9.cell 1;have hl2:=hq9.cell 2;have hu0:=hq10.cell 0;have hu1:=hq10.cell 1;have hu2:=hq10.cell 2;obtain⟨wh,hwh⟩:∃c,c=wholeT (mkV l) bs:=⟨_,rfl⟩;rw[←hwh];have HWH:=Lib.hid hwh;clear hwh
     cases wh with
     |false=>
      have HF:Hid (splitC (1,l,x) (2,m,x2) bs=false):=Lib.hid (by rw[HSP.out,HD.out,←HWH.out];rfl)
      go_wp2;go_ret
      exact⟨by rw[HF.out]<;>rfl,X8⟩
     |true=>
      go_wp2_with fail;refine(rqiswhole3_calls _ x w8 ((HLQ.out.ext e58).cq) (by omega)).mono ?_;rintro e w9 ⟨rfl,e9⟩;have e59:=e58.trans e9;have X9:=X8.trans e9;obtain⟨iw,hiw⟩:∃c,c=decide ((x).den=1):=⟨_,rfl⟩;rw[←hiw]
      have HIW:Hid (isW x=iw):=Lib.hid ((whole_den _).trans hiw.symm)
      clear hiw hl0 hl1 hl2 hu0 hu1 hu2 hq9 hq10;have hq9:=ba9.ext e59;have hq10:=ba10.ext e59;have hl0:=hq9.cell 0;have hl1:=hq9.cell 1;have hl2:=hq9.cell 2;have hu0:=hq10.cell 0;have hu1:=hq10.cell 1;have hu2:=hq10.cell 2
      cases iw with
      |false=>
       have HF:Hid (splitC (1,l,x) (2,m,x2) bs=false):=Lib.hid (by rw[HSP.out,HD.out,←HWH.out,HIW.out];rfl)
       go_wp2;go_ret
       exact⟨by rw[HF.out]<;>rfl,X9⟩
      |true=>
       go_wp2_with fail;refine(rqsub3_calls _ _ x2 x (5*k) (5*k) w9 ((HUQ.out.ext e59).cq) ((HLQ.out.ext e59).cq) (by omega) (by omega) (by omega)).mono ?_;rintro e w10 ⟨v10,rfl,h10,hsz10,e10⟩;have H10:=Lib.hid h10;clear h10;go_wp2_with fail;refine(rqsmall3_calls 1 w10 (by omega) (by omega)).mono ?_;rintro e w11 ⟨v11,rfl,h11,e11⟩;have H11:=Lib.hid h11;clear h11;go_wp2_with fail;refine(rqcmp3_calls _ _ (x2 - x) ((1:Int):Rat) (5*k+5*k+1) 5 w11 (H10.out.cq.ext e11) H11.out.cq hsz10 hz1 (by omega)).mono ?_;rintro e w12 ⟨rfl,e12⟩;obtain⟨z,hz⟩:∃z,z=cmpR (x2 - x) ((1:Int):Rat):=⟨_,rfl⟩;rw[←hz]
       have HF:Hid (splitC (1,l,x) (2,m,x2) bs=(z==0)):=Lib.hid (by rw[HSP.out,HD.out,←HWH.out,HIW.out,hz];rfl)
       clear hz;go_wp2;go_ret
       exact⟨by rw[HF.out]<;>rfl,((X9.trans e10).trans e11).trans e12⟩
 by_cases hB:s=2∧s2=1
 ·obtain⟨rfl,rfl⟩:=hB
  have HSP:Hid (splitC (2,l,x) (1,m,x2) bs=splitLH (1,m,x2) (2,l,x) bs):=Lib.hid ((if_neg hA).trans (if_pos ⟨rfl,rfl⟩))
  clear hA;obtain⟨w1,hw1,e1,b1_,b2_,s1⟩:=alloc2 w #[.int .i64 2,.slice a n p,.bool b,.slice a1 n1 c1,.slice a2 n2 c2] #[.int .i64 1,.slice ay ny py,.bool bby,.slice a1y n1y c1y,.slice a2y n2y c2y] 36 36
  go_enter Tryz.func31,Tryz.ntmps31
  go_wp2_with fail;rw[←hw1];clear hw1;refine wp_region_alt [⟨2,36,5,#[.int .i64 0,.slice none 0 0,.bool false,.slice none 0 0,.slice none 0 0]⟩,⟨3,36,5,#[.int .i64 0,.slice none 0 0,.bool false,.slice none 0 0,.slice none 0 0]⟩] [⟨4,⟨2,36,5,#[.int .i64 0,.slice none 0 0,.bool false,.slice none 0 0,.slice none 0 0]⟩,PT.val (.agg #[.int .i64 2,.slice a n p,.bool b,.slice a1 n1 c1,.slice a2 n2 c2])⟩,⟨5,⟨3,36,5,#[.int .i64 0,.slice none 0 0,.bool false,.slice none 0 0,.slice none 0 0]⟩,PT.val (.agg #[.int .i64 1,.slice ay ny py,.bool bby,.slice a1y n1y c1y,.slice a2y n2y c2y])⟩] [PT.val (.agg #[.int .i64 2,.slice a n p,.bool b,.slice a1 n1 c1,.slice a2 n2 c2]),PT.val (.agg #[.int .i64 1,.slice ay ny py,.bool bby,.slice a1y n1y c1y,.slice a2y n2y c2y]),PT.any,PT.any,PT.any,PT.any]
   (by kernel_rfl) (by kernel_rfl) (fun f=>(by simp only[fillR,fillL,List.setIfInBounds_toArray,List.set_cons_succ,List.set_cons_zero,Nat.reduceAdd];rfl)) ?_ ?_ ?_ ?_ ?_
  ·intro x hx;simp only[List.mem_cons,List.not_mem_nil,or_false]at hx;rcases hx with rfl |rfl
   ·exact⟨rfl,rfl,by decide,by decide,rfl,rfl⟩
   ·exact⟨rfl,rfl,by decide,by decide,rfl,rfl⟩
  ·intro x hx;simp only[List.mem_cons,List.not_mem_nil,or_false]at hx;rcases hx with rfl |rfl<;>exact ⟨rfl,rfl,by simp⟩
  ·intro x hx y hy h;simp only[List.mem_cons,List.not_mem_nil,or_false]at hx hy;rcases hx with rfl |rfl<;>rcases hy with rfl |rfl
   ·exact absurd rfl h
   ·show 2≠3;decide
   ·show 3≠2;decide
   ·exact absurd rfl h
  ·refine⟨?_,?_,?_,?_,?_,?_,trivial⟩
   ·intro f w2 hE hp;have hS:=hE.size;change OpGoal _ _ _ f w2 Ext _;exact og_load (P:=Tryz.prog) _ _ w.heap.size _ _ _ rfl rfl rfl (b1_.ext hE) Tryz.underlying36 rfl (by kernel_rfl) rfl
   ·intro f w2 hE hp;have hS:=hE.size;change OpGoal _ _ _ f w2 Ext _;exact og_load (P:=Tryz.prog) _ _ (w.heap.size+1) _ _ _ rfl rfl rfl (b2_.ext hE) Tryz.underlying36 rfl (by kernel_rfl) rfl
   ·intro f w2 hE hp;have hS:=hE.size;change OpGoal _ _ _ f w2 (fun a b=>b=a.alloc _) _;exact og_alloc (P:=Tryz.prog) _ _ (.agg #[.int .i64 0,.slice none 0 0,.bool false,.slice none 0 0,.slice none 0 0]) rfl rfl (by kernel_rfl) rfl
   ·intro f w2 hE hp;have hS:=hE.size;change OpGoal _ _ _ f w2 (fun a b=>b=a.alloc _) _;exact og_alloc (P:=Tryz.prog) _ _ (.agg #[.int .i64 0,.slice none 0 0,.bool false,.slice none 0 0,.slice none 0 0]) rfl rfl (by kernel_rfl) rfl
   ·intro f w2 hE hp;have hS:=hE.size
    have q27:f 0= .agg #[.int .i64 2,.slice a n p,.bool b,.slice a1 n1 c1,.slice a2 n2 c2]:=tellT hp 1 0 rfl rfl rfl
    intro g old hfa hSg hbx hsz hno;change OpGoal _ _ _ f w2 (Chg g) _;exact og_storeT (P:=Tryz.prog) (PT.val (.agg #[.int .i64 2,.slice a n p,.bool b,.slice a1 n1 c1,.slice a2 n2 c2])) 5 _ _ _ g _ old _ rfl rfl hfa q27 hbx (by kernel_rfl) hsz rfl (all5 rfl rfl rfl rfl rfl) hSg (show 36≠172 by decide) (show 36≠3 by decide) hno (rfl) rfl
   ·intro f w2 hE hp;have hS:=hE.size
    have q28:f 1= .agg #[.int .i64 1,.slice ay ny py,.bool bby,.slice a1y n1y c1y,.slice a2y n2y c2y]:=tellT hp 1 1 rfl rfl rfl
    intro g old hfa hSg hbx hsz hno;change OpGoal _ _ _ f w2 (Chg g) _;exact og_storeT (P:=Tryz.prog) (PT.val (.agg #[.int .i64 1,.slice ay ny py,.bool bby,.slice a1y n1y c1y,.slice a2y n2y c2y])) 5 _ _ _ g _ old _ rfl rfl hfa q28 hbx (by kernel_rfl) hsz rfl (all5 rfl rfl rfl rfl rfl) hSg (show 36≠172 by decide) (show 36≠3 by decide) hno (rfl) rfl
  ·intro f w2 hE hp hal;obtain⟨ga7,ca7,fa7,la7,ba7,na7,pa7⟩:=hal ⟨2,36,5,#[.int .i64 0,.slice none 0 0,.bool false,.slice none 0 0,.slice none 0 0]⟩ (by simp) (by decide)
   dsimp only at fa7 la7 ba7 na7
   have za7:=pa7 ⟨4,⟨2,36,5,#[.int .i64 0,.slice none 0 0,.bool false,.slice none 0 0,.slice none 0 0]⟩,PT.val (.agg #[.int .i64 2,.slice a n p,.bool b,.slice a1 n1 c1,.slice a2 n2 c2])⟩ (by simp) (by show 4<6;decide) rfl rfl;clear pa7;obtain⟨ga8,ca8,fa8,la8,ba8,na8,pa8⟩:=hal ⟨3,36,5,#[.int .i64 0,.slice none 0 0,.bool false,.slice none 0 0,.slice none 0 0]⟩ (by simp) (by decide)
   dsimp only at fa8 la8 ba8 na8
   have za8:=pa8 ⟨5,⟨3,36,5,#[.int .i64 0,.slice none 0 0,.bool false,.slice none 0 0,.slice none 0 0]⟩,PT.val (.agg #[.int .i64 1,.slice ay ny py,.bool bby,.slice a1y n1y c1y,.slice a2y n2y c2y])⟩ (by simp) (by show 5<6;decide) rfl rfl;clear pa8;clear hp hal
   cases za7
   cases za8
   have X2:=e1.trans hE;have P2:=b1_.ext hE;have Q2:=b2_.ext hE
   have hne:ga7≠ga8:=fun h=>by
    subst h;unfold Bx at ba7 ba8;rw[ba7]at ba8
    simp at ba8
   have hl7:w.heap.size+2≤ga7:=by have:=la7;omega
   have hl8:w.heap.size+2≤ga8:=by have:=la8;omega
   have hb0:=P2.cell 0;have hq0:=Q2.cell 0;have hq1:=Q2.cell 1;have hq2:=Q2.cell 2;have hq3:=Q2.cell 3;have hq4:=Q2.cell 4;have ht0:=ba7.cell 0;have htf0:=ba7.free 0;have ht1:=ba7.cell 1;have htf1:=ba7.free 1;have ht2:=ba7.cell 2;have htf2:=ba7.free 2;have ht3:=ba7.cell 3;have htf3:=ba7.free 3;have ht4:=ba7.cell 4;have htf4:=ba7.free 4;clear hE b1_ b2_
   go_upto_region 6 with(fail)
   obtain⟨w3,hw3,c3,T7a⟩:=put5 ba7 (.int .i64 1) (.slice ay ny py) (.bool bby) (.slice a1y n1y c1y) (.slice a2y n2y c2y);rw[←hw3];have X3:=X2.step c3 (by omega);have P3a:=P2.chg c3 (by omega);have Q3a:=Q2.chg c3 (by omega);have T8a:=ba8.chg c3 (by omega);clear hw3 hb0 hq0 hq1 hq2 hq3 hq4 ht0 ht1 ht2 ht3 ht4 htf0 htf1 htf2 htf3 htf4 ba7 ba8 P2 Q2 c3;have hq0:=P3a.cell 0;have hq1:=P3a.cell 1;have hq2:=P3a.cell 2;have hq3:=P3a.cell 3;have hq4:=P3a.cell 4;have ht0:=T8a.cell 0;have htf0:=T8a.free 0;have ht1:=T8a.cell 1;have htf1:=T8a.free 1;have ht2:=T8a.cell 2;have htf2:=T8a.free 2;have ht3:=T8a.cell 3;have htf3:=T8a.free 3;have ht4:=T8a.cell 4;have htf4:=T8a.free 4;go_wp2_with fail;obtain⟨w4,hw4,c4,T8⟩:=put5 T8a (.int .i64 2) (.slice a n p) (.bool b) (.slice a1 n1 c1) (.slice a2 n2 c2);rw[←hw4];have X4:=X3.step c4 (by omega);have P3:=P3a.chg c4 (by omega);have P4:=Q3a.chg c4 (by omega);have T7:=T7a.chg c4 (by omega);clear hw4 hq0 hq1 hq2 hq3 hq4 ht0 ht1 ht2 ht3 ht4 htf0 htf1 htf2 htf3 htf4 P3a Q3a T7a T8a c4;refine wp_region_alt [⟨6,81,3,#[.bool false,.slice none 0 0,.slice none 0 0]⟩,⟨7,81,3,#[.bool false,.slice none 0 0,.slice none 0 0]⟩] [⟨8,⟨6,81,3,#[.bool false,.slice none 0 0,.slice none 0 0]⟩,PT.frQd x2⟩,⟨9,⟨7,81,3,#[.bool false,.slice none 0 0,.slice none 0 0]⟩,PT.frQd x⟩] [PT.val (.pointer (some ⟨ga7,2,none⟩)),PT.val (.agg #[.bool bby,.slice a1y n1y c1y,.slice a2y n2y c2y]),PT.frQd x2,PT.val (.pointer (some ⟨ga8,2,none⟩)),PT.val (.agg #[.bool b,.slice a1 n1 c1,.slice a2 n2 c2]),PT.frQd x,PT.any,PT.any,PT.any,PT.any]
    (by kernel_rfl) (by kernel_rfl) (fun f=>(by simp only[fillR,fillL,List.setIfInBounds_toArray,List.set_cons_succ,List.set_cons_zero,Nat.reduceAdd];rfl)) ?_ ?_ ?_ ?_ ?_
   ·intro x hx;simp only[List.mem_cons,List.not_mem_nil,or_false]at hx;rcases hx with rfl |rfl
    ·exact⟨rfl,rfl,by decide,by decide,rfl,rfl⟩
    ·exact⟨rfl,rfl,by decide,by decide,rfl,rfl⟩
   ·intro x hx;simp only[List.mem_cons,List.not_mem_nil,or_false]at hx;rcases hx with rfl |rfl<;>exact ⟨rfl,rfl,by simp⟩
   ·intro x hx y hy h;simp only[List.mem_cons,List.not_mem_nil,or_false]at hx hy;rcases hx with rfl |rfl<;>rcases hy with rfl |rfl
    ·exact absurd rfl h
    ·show 6≠7;decide
    ·show 7≠6;decide
    ·exact absurd rfl h
   ·refine⟨?_,?_,?_,?_,?_,?_,?_,?_,?_,?_,trivial⟩
    ·intro f w5 hE hp;have hS:=hE.size;change OpGoal _ _ _ f w5 Ext _;simp only[OpGoal];go_simp;exact⟨_,rfl,Ext.refl _,rfl⟩
    ·intro f w5 hE hp;have hS:=hE.size
     have q34:f 0= .pointer (some ⟨ga7,2,none⟩):=tellT hp 0 0 rfl rfl rfl
     have hbx:=T7.ext hE;have hcell0:=hbx.cell 0;have hcell1:=hbx.cell 1;have hcell2:=hbx.cell 2;have hcell3:=hbx.cell 3;have hcell4:=hbx.cell 4;change OpGoal _ _ _ f w5 Ext _;simp only[OpGoal];go_simp;exact⟨_,rfl,Ext.refl _,rfl⟩
    ·intro f w5 hE hp;have hS:=hE.size
     have q35:f 1= .agg #[.bool bby,.slice a1y n1y c1y,.slice a2y n2y c2y]:=tellT hp 0 1 rfl rfl rfl
     change OpGoal _ _ _ f w5 Ext _;refine oC #[f 1] Tryz.func55 rfl rfl ?_;rw[q35];refine(rqofR_calls _ x2 k _ (HRy.out.ext (X4.trans hE)) (by omega)).mono ?_;rintro e w' ⟨v',rfl,h1,h2⟩;exact⟨v',rfl,h2,h1.mono hS⟩
    ·intro f w5 hE hp;have hS:=hE.size;change OpGoal _ _ _ f w5 Ext _;simp only[OpGoal];go_simp;exact⟨_,rfl,Ext.refl _,rfl⟩
    ·intro f w5 hE hp;have hS:=hE.size
     have q37:f 3= .pointer (some ⟨ga8,2,none⟩):=tellT hp 0 3 rfl rfl rfl
     have hbx:=T8.ext hE;have hcell0:=hbx.cell 0;have hcell1:=hbx.cell 1;have hcell2:=hbx.cell 2;have hcell3:=hbx.cell 3;have hcell4:=hbx.cell 4;change OpGoal _ _ _ f w5 Ext _;simp only[OpGoal];go_simp;exact⟨_,rfl,Ext.refl _,rfl⟩
    ·intro f w5 hE hp;have hS:=hE.size
     have q38:f 4= .agg #[.bool b,.slice a1 n1 c1,.slice a2 n2 c2]:=tellT hp 0 4 rfl rfl rfl
     change OpGoal _ _ _ f w5 Ext _;refine oC #[f 4] Tryz.func55 rfl rfl ?_;rw[q38];refine(rqofR_calls _ x k _ (HR.out.ext (X4.trans hE)) (by omega)).mono ?_;rintro e w' ⟨v',rfl,h1,h2⟩;exact⟨v',rfl,h2,h1.mono hS⟩
    ·intro f w5 hE hp;have hS:=hE.size;change OpGoal _ _ _ f w5 (fun a b=>b=a.alloc _) _;exact og_alloc (P:=Tryz.prog) _ _ (.agg #[.bool false,.slice none 0 0,.slice none 0 0]) rfl rfl (by kernel_rfl) rfl
    ·intro f w5 hE hp;have hS:=hE.size;change OpGoal _ _ _ f w5 (fun a b=>b=a.alloc _) _;exact og_alloc (P:=Tryz.prog) _ _ (.agg #[.bool false,.slice none 0 0,.slice none 0 0]) rfl rfl (by kernel_rfl) rfl
    ·intro f w5 hE hp;have hS:=hE.size;have q36:=tellT hp 1 2 rfl rfl rfl;intro g old hfa hSg hbx hsz hno;change OpGoal _ _ _ f w5 (Chg g) _;obtain⟨cells,hv,hcs,hc1,hcn⟩:=FrQd.parts q36;exact og_storeT (P:=Tryz.prog) (PT.frQd x2) 3 _ _ _ g _ old cells rfl rfl hfa hv hbx (by rw[hcs];kernel_rfl) hsz hcs hc1 hSg (show 81≠172 by decide) (show 81≠3 by decide) hno rfl (hv▸q36)
    ·intro f w5 hE hp;have hS:=hE.size;have q39:=tellT hp 1 5 rfl rfl rfl;intro g old hfa hSg hbx hsz hno;change OpGoal _ _ _ f w5 (Chg g) _;obtain⟨cells,hv,hcs,hc1,hcn⟩:=FrQd.parts q39;exact og_storeT (P:=Tryz.prog) (PT.frQd x) 3 _ _ _ g _ old cells rfl rfl hfa hv hbx (by rw[hcs];kernel_rfl) hsz hcs hc1 hSg (show 81≠172 by decide) (show 81≠3 by decide) hno rfl (hv▸q39)
   ·intro f w5 hE hp hal;obtain⟨ga9,ca9,fa9,la9,ba9,na9,pa9⟩:=hal ⟨6,81,3,#[.bool false,.slice none 0 0,.slice none 0 0]⟩ (by simp) (by decide)
    dsimp only at fa9 la9 ba9 na9
    have za9:=pa9 ⟨8,⟨6,81,3,#[.bool false,.slice none 0 0,.slice none 0 0]⟩,PT.frQd x2⟩ (by simp) (by show 8<10;decide) rfl rfl;clear pa9;obtain⟨ga10,ca10,fa10,la10,ba10,na10,pa10⟩:=hal ⟨7,81,3,#[.bool false,.slice none 0 0,.slice none 0 0]⟩ (by simp) (by decide)
    dsimp only at fa10 la10 ba10 na10
    have za10:=pa10 ⟨9,⟨7,81,3,#[.bool false,.slice none 0 0,.slice none 0 0]⟩,PT.frQd x⟩ (by simp) (by show 9<10;decide) rfl rfl;clear pa10;clear hp hal;obtain⟨lb,la1,ln1,lc1,la2,ln2,lc2,hlv,hlq⟩:=FrQd.opn za9;obtain⟨ub,ua1,un1,uc1,ua2,un2,uc2,huv,huq⟩:=FrQd.opn za10
    cases hlv
    cases huv
    have HLQ:=Lib.hid hlq;have HUQ:=Lib.hid huq;have X5:=X4.trans hE;have P5:=P3.ext hE;have Q5:=P4.ext hE;clear hlq huq za9 za10 T7 T8 P3 P4;have hp0:=P5.cell 0;have hp1:=P5.cell 1;have hp2:=P5.cell 2;have hp3:=P5.cell 3;have hp4:=P5.cell 4;have hq0:=Q5.cell 0;have hq1:=Q5.cell 1;have hq2:=Q5.cell 2;have hq3:=Q5.cell 3;have hq4:=Q5.cell 4;go_wp2_with fail;refine(alike11_calls k _ _ (2,l,x) (1,m,x2) w5 (CnR.mk' (HT.out.ext X5) (HR.out.ext X5)) (CnR.mk' (HTy.out.ext X5) (HRy.out.ext X5)) (by omega) hn hn2).mono ?_;rintro e w6 ⟨rfl,e6⟩;have X6:=X5.trans e6;have P6:=P5.ext e6;have hq9:=ba9.ext e6;have hq10:=ba10.ext e6;clear hp0 hp1 hp2 hp3 hp4 hq0 hq1 hq2 hq3 hq4;obtain⟨lk,hlk⟩:∃c,c=likeC (2,l,x) (1,m,x2):=⟨_,rfl⟩;rw[←hlk];have HLK:=Lib.hid hlk;clear hlk
    cases lk with
    |false=>
     have HF:Hid (splitC (2,l,x) (1,m,x2) bs=false):=Lib.hid (by rw[HSP.out];exact(splitLH_like HLK.out.symm).2)
     go_wp2;go_ret
     exact⟨by rw[HF.out]<;>rfl,X6⟩
    |true=>
     have HD:=Lib.hid (splitLH_doc (bs:=bs) HLK.out.symm (.inr ⟨rfl,rfl⟩));have hp1:=P6.cell 1;have hl0:=hq9.cell 0;have hl1:=hq9.cell 1;have hl2:=hq9.cell 2;have hu0:=hq10.cell 0;have hu1:=hq10.cell 1;have hu2:=hq10.cell 2;go_wp2_with fail;refine(make5_calls k _ l w6 (HT.out.ext X6) (by omega) hn).mono ?_;rintro e w7 ⟨v7,rfl,h7,e7⟩;have H7:=Lib.hid h7;have e67:=e6.trans e7;clear h7 hp1 hl0 hl1 hl2 hu0 hu1 hu2 hq9 hq10;go_wp2_with fail;refine(whole11_calls (l.length*(k+1)+1) _ _ (mkV l) bs w7 (H7.out.tl (by omega)) (HU.out.ext (X6.trans e7)) (by omega) (fun y hy=>(mkV_nf l).1.2 y hy)).mono ?_;rintro e w8 ⟨rfl,e8⟩;have e58:=e67.trans e8;have X8:=X5.trans e58;have hq9:=ba9.ext e58;have hq10:=ba10.ext e58;have hl0:=hq9.cell 0;have hl1:=hq9.cell 1;have hl2:=hq9.cell 2;have hu0:=hq10.cell 0;have hu1:=hq10.cell 1;have hu2:=hq10.cell 2;obtain⟨wh,hwh⟩:∃c,c=wholeT (mkV l) bs:=⟨_,rfl⟩;rw[←hwh];have HWH:=Lib.hid hwh;clear hwh
     cases wh with
     |false=>
      have HF:Hid (splitC (2,l,x) (1,m,x2) bs=false):=Lib.hid (by rw[HSP.out,HD.out,←HWH.out];rfl)
      go_wp2;go_ret
      exact⟨by rw[HF.out]<;>rfl,X8⟩
     |true=>
      go_wp2_with fail;refine(rqiswhole3_calls _ x2 w8 ((HLQ.out.ext e58).cq) (by omega)).mono ?_;rintro e w9 ⟨rfl,e9⟩;have e59:=e58.trans e9;have X9:=X8.trans e9;obtain⟨iw,hiw⟩:∃c,c=decide ((x2).den=1):=⟨_,rfl⟩;rw[←hiw]
      have HIW:Hid (isW x2=iw):=Lib.hid ((whole_den _).trans hiw.symm)
      clear hiw hl0 hl1 hl2 hu0 hu1 hu2 hq9 hq10;have hq9:=ba9.ext e59;have hq10:=ba10.ext e59;have hl0:=hq9.cell 0;have hl1:=hq9.cell 1;have hl2:=hq9.cell 2;have hu0:=hq10.cell 0;have hu1:=hq10.cell 1;have hu2:=hq10.cell 2
      cases iw with
      |false=>
       have HF:Hid (splitC (2,l,x) (1,m,x2) bs=false):=Lib.hid (by rw[HSP.out,HD.out,←HWH.out,HIW.out];rfl)
       go_wp2;go_ret
       exact⟨by rw[HF.out]<;>rfl,X9⟩
      |true=>
       go_wp2_with fail;refine(rqsub3_calls _ _ x x2 (5*k) (5*k) w9 ((HUQ.out.ext e59).cq) ((HLQ.out.ext e59).cq) (by omega) (by omega) (by omega)).mono ?_;rintro e w10 ⟨v10,rfl,h10,hsz10,e10⟩;have H10:=Lib.hid h10;clear h10;go_wp2_with fail;refine(rqsmall3_calls 1 w10 (by omega) (by omega)).mono ?_;rintro e w11 ⟨v11,rfl,h11,e11⟩;have H11:=Lib.hid h11;clear h11;go_wp2_with fail;refine(rqcmp3_calls _ _ (x - x2) ((1:Int):Rat) (5*k+5*k+1) 5 w11 (H10.out.cq.ext e11) H11.out.cq hsz10 hz1 (by omega)).mono ?_;rintro e w12 ⟨rfl,e12⟩;obtain⟨z,hz⟩:∃z,z=cmpR (x - x2) ((1:Int):Rat):=⟨_,rfl⟩;rw[←hz]
       have HF:Hid (splitC (2,l,x) (1,m,x2) bs=(z==0)):=Lib.hid (by rw[HSP.out,HD.out,←HWH.out,HIW.out,hz];rfl)
       clear hz;go_wp2;go_ret
       exact⟨by rw[HF.out]<;>rfl,((X9.trans e10).trans e11).trans e12⟩
 have HF:=Lib.hid (splitC_no (a:=(s,l,x)) (b:=(s2,m,x2)) (bs:=bs) hA hB)
 have hor:(IntKind.i64.wrap (s+s2) !=3)=true∨((s !=1)=true∧(s !=2)=true):=by
  by_cases h1:s=1
  ·refine .inl ?_;subst h1
   have h2:s2≠2:=fun h=>hA ⟨rfl,h⟩
   rw[bne_iff_ne]
   by_cases h:s2=9223372036854775807
   ·rw[h];decide
   ·rw[Go.IntWalk.i64_in _ ⟨by omega,by omega⟩]
    omega
  by_cases h2:s=2
  ·refine .inl ?_;subst h2
   have h2:s2≠1:=fun h=>hB ⟨rfl,h⟩
   rw[bne_iff_ne]
   by_cases h:9223372036854775806≤s2
   ·rcases(show s2=9223372036854775806∨s2=9223372036854775807 by omega)with h |h<;>(rw[h];decide)
   ·rw[Go.IntWalk.i64_in _ ⟨by omega,by omega⟩]
    omega
  ·exact .inr ⟨by rw[bne_iff_ne];exact h1,by rw[bne_iff_ne];exact h2⟩
 clear hA hB hr1 hr2
 rcases hor with ht0 |⟨hb1,hb2⟩
 ·have ht:(wrap64 (s+s2) !=3)=true:=by rw[←IntWalk.i64_left];exact ht0
  have ht2:¬wrap64 (s+s2)=3:=by rwa [bne_iff_ne]at ht
  clear ht0
  go_enter Tryz.func31,Tryz.ntmps31
  go_wp2;go_ret
  exact⟨by rw[HF.out]<;>rfl,(Ext.refl _).alloc _ |>.alloc _⟩
 ·obtain⟨t,ht⟩:∃t,t=(wrap64 (s+s2) !=3):=⟨_,rfl⟩;have ht':=ht.symm;clear ht
  cases t
  all_goals
   go_enter Tryz.func31,Tryz.ntmps31
   go_wp2
   all_goals
    go_ret
    exact⟨by rw[HF.out]<;>rfl,(Ext.refl _).alloc _ |>.alloc _⟩
end Go.Proofs.YtokfaggcojokgaaGreat
