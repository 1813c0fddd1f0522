/-
 Constraints: the document's word whether one dominates another one, whether two split (cutwaterref11.Dominates, Split).
-/
import Derived.Test.YtokfaggcojokgaaGreatCnhZ
namespace Go.Proofs.YtokfaggcojokgaaGreat
set_option maxRecDepth 100000
set_option maxHeartbeats 1000000
open Go.RowKit
set_option linter.unusedVariables false
set_option linter.unusedSimpArgs false
set_option maxHeartbeats 16000000 in
theorem dominates11_calls(k:Nat)(v u:Value)(a b:CR)(w:World)(hv:CnR k w v a)(hu:CnR k w u b)(hk:k≤1000000)(hn:a.2.1.length≤1000)(hn2:b.2.1.length≤1000):
  Calls Tryz.prog 29 #[v,u] w fun e w'=>e= .returned (.bool (domC a b))∧Ext w w':=by
 obtain⟨s,l,x⟩:=a;obtain⟨s2,m,x2⟩:=b
 simp only at hn hn2
 obtain⟨a,n,p,b,a1,n1,c1,a2,n2,c2,rfl,ht,hr⟩:=hv.op;have HT:=Lib.hid ht;have HR:=Lib.hid hr;clear ht hr;obtain⟨ay,ny,py,bby,a1y,n1y,c1y,a2y,n2y,c2y,rfl,hty,hry⟩:=hu.op;have HTy:=Lib.hid hty;have HRy:=Lib.hid hry;clear hty hry
 have hz0:szD ((0:Int):Rat)≤5:=by decide+kernel
 have hzx:=szD_of HR.out.sz;obtain⟨w1,hw1,e1,b1_,b2_,s1⟩:=alloc2 w #[.int .i64 s,.slice a n p,.bool b,.slice a1 n1 c1,.slice a2 n2 c2] #[.int .i64 s2,.slice ay ny py,.bool bby,.slice a1y n1y c1y,.slice a2y n2y c2y] 36 36
 go_enter Tryz.func29,Tryz.ntmps29
 go_wp2_with fail;rw[←hw1];refine(sense11_calls s w1).mono ?_;rintro e w2 ⟨rfl,e2⟩;have E2:=e1.trans e2;have B2:=b1_.ext e2;have Q2:=b2_.ext e2;clear hw1 b1_ b2_ e1 e2
 cases hs:sens s with
 |false=>
  have HD:=Lib.hid (dom_no1 (a:=(s,l,x)) (b:=(s2,m,x2)) hs);clear hs;go_wp2;go_ret
  exact⟨by rw[HD.out]<;>rfl,E2⟩
 |true=>
 have HS:=Lib.hid hs;clear hs;have hy0:=Q2.cell 0;go_wp2_with fail;refine(sense11_calls s2 w2).mono ?_;rintro e w3 ⟨rfl,e3⟩;have E3:=E2.trans e3;have B3:=B2.ext e3;have Q3:=Q2.ext e3;clear hy0 B2 Q2 E2 e3
 cases hs:sens s2 with
 |false=>
  have HD:=Lib.hid (dom_no2 (a:=(s,l,x)) (b:=(s2,m,x2)) hs);clear hs;go_wp2;go_ret
  exact⟨by rw[HD.out]<;>rfl,E3⟩
 |true=>
 have HD:=Lib.hid (dom_eq (a:=(s,l,x)) (b:=(s2,m,x2)) HS.out hs);clear hs HS;obtain⟨fa,hfa⟩:∃c,c=falseC (s,l,x):=⟨_,rfl⟩;obtain⟨cb,hcb⟩:∃c,c=bareC (s2,m,x2):=⟨_,rfl⟩;obtain⟨kp,hkp⟩:∃c,c=keptQ s2 ((0:Int):Rat) x2:=⟨_,rfl⟩;have HFA:=Lib.hid hfa;have HCB:=Lib.hid hcb;have HKP:=Lib.hid hkp;clear hfa hcb hkp;go_wp2_with fail;refine wpQ [PP.val (.agg #[.int .i64 s,.slice a n p,.bool b,.slice a1 n1 c1,.slice a2 n2 c2]),PP.val (.bool fa),PP.val (.bool fa),PP.whn (!fa) (PP.val (.agg #[.int .i64 s2,.slice ay ny py,.bool bby,.slice a1y n1y c1y,.slice a2y n2y c2y])),PP.whn (!fa) (PP.val (.bool cb)),PP.whn (!fa) (PP.val (.bool cb)),PP.whn ((!fa)&&cb) (PP.val (.agg #[.int .i64 s2,.slice ay ny py,.bool bby,.slice a1y n1y c1y,.slice a2y n2y c2y])),PP.whn ((!fa)&&cb) (PP.frQd ((0:Int):Rat)),PP.whn ((!fa)&&cb) (PP.val (.bool kp)),PP.whn (!fa) (PP.val (.bool (cb&&kp))),PP.val (.bool (fa || ((cb&&kp))))] [] [0,1,2,3,4,5,6,7,8,9,10] ?_ ?_
 ·refine⟨?_,?_,?_,?_,?_,?_,?_,?_,?_,?_,?_,trivial⟩
  ·intro f w2 hG hp hl;have hE:Ext w3 w2:=hG;change OpGoal _ _ _ f w2 Ext _;exact og_load (P:=Tryz.prog) _ _ w.heap.size _ _ _ rfl rfl rfl (B3.ext hE) Tryz.underlying36 rfl (by kernel_rfl) rfl
  ·intro f w2 hG hp hl;have hE:Ext w3 w2:=hG;have q15:=tE hp 0 0 rfl rfl rfl;change OpGoal _ _ _ f w2 Ext _;refine oC #[f 0] Tryz.func32 rfl rfl ?_;rw[q15];refine(false11_calls k _ (s,l,x) _ (CnR.mk' (HT.out.ext (E3.trans hE)) (HR.out.ext (E3.trans hE))) hk hn).mono ?_;rintro e w' ⟨rfl,h2⟩
   exact⟨_,rfl,h2,by rw[HFA.out]<;>rfl⟩
  ·intro f w2 hG hp hl;have q16:=tE hp 0 1 rfl rfl rfl;exact⟨_,rfl,Ext.refl _,q16⟩
  ·intro f w2 hG hp hl;have hE:Ext w3 w2:=hG;have qg:=tellV hp 0 2 rfl rfl (fun h=>by cases h);refine og_when (p:=(PP.val (.agg #[.int .i64 s2,.slice ay ny py,.bool bby,.slice a1y n1y c1y,.slice a2y n2y c2y]):PP _).p) rfl (when_f qg) ?_;intro hg0;clear qg;change OpGoal _ _ _ f w2 Ext _;exact og_load (P:=Tryz.prog) _ _ (w.heap.size+1) _ _ _ rfl rfl rfl (Q3.ext hE) Tryz.underlying36 rfl (by kernel_rfl) rfl
  ·intro f w2 hG hp hl;have hE:Ext w3 w2:=hG;have qg:=tellV hp 1 2 rfl rfl (fun h=>by cases h);refine og_when (p:=(PP.val (.bool cb):PP _).p) rfl (when_f qg) ?_;intro hg0;clear qg
   have q18:f 3= .agg #[.int .i64 s2,.slice ay ny py,.bool bby,.slice a1y n1y c1y,.slice a2y n2y c2y]:=(tellV hp 0 3 rfl rfl (fun h=>by cases h)).1 hg0
   change OpGoal _ _ _ f w2 Ext _;refine oC #[f 3] Tryz.func70 rfl rfl ?_;rw[q18];refine(bare11_calls k _ (s2,m,x2) _ (CnR.mk' (HTy.out.ext (E3.trans hE)) (HRy.out.ext (E3.trans hE))) hk hn2).mono ?_;rintro e w' ⟨rfl,h2⟩
   exact⟨_,rfl,h2,by rw[HCB.out]<;>rfl⟩
  ·intro f w2 hG hp hl;have qg:=tellV hp 2 2 rfl rfl (fun h=>by cases h);refine og_when (p:=(PP.val (.bool cb):PP _).p) rfl (when_f qg) ?_;intro hg0;clear qg
   have q19:f 4= .bool cb:=(tellV hp 0 4 rfl rfl (fun h=>by cases h)).1 hg0
   exact⟨_,rfl,Ext.refl _,q19⟩
  ·intro f w2 hG hp hl;have hE:Ext w3 w2:=hG;have qg:=tellV hp 0 5 rfl rfl (fun h=>by cases h);refine og_when (p:=(PP.val (.agg #[.int .i64 s2,.slice ay ny py,.bool bby,.slice a1y n1y c1y,.slice a2y n2y c2y]):PP _).p) rfl (when_in qg) ?_;intro hg0;clear qg;have hg1:=(Bool.and_eq_true_iff.1 hg0).1;change OpGoal _ _ _ f w2 Ext _;exact og_load (P:=Tryz.prog) _ _ (w.heap.size+1) _ _ _ rfl rfl rfl (Q3.ext hE) Tryz.underlying36 rfl (by kernel_rfl) rfl
  ·intro f w2 hG hp hl;have hE:Ext w3 w2:=hG;have hS:=hE.size;have qg:=tellV hp 0 5 rfl rfl (fun h=>by cases h);refine og_when (p:=(PP.frQd ((0:Int):Rat):PP _).p) rfl (when_in qg) ?_;intro hg0;clear qg;have hg1:=(Bool.and_eq_true_iff.1 hg0).1;change OpGoal _ _ _ f w2 Ext _;refine oC #[.int .i64 0] Tryz.func58 rfl rfl ?_;refine(rqsmall3_calls 0 _ (by omega) (by omega)).mono ?_;rintro e w' ⟨v',rfl,h1,h2⟩;exact⟨v',rfl,h2,h1.mono hS⟩
  ·intro f w2 hG hp hl;have hE:Ext w3 w2:=hG;have hS:=hE.size;have qg:=tellV hp 3 5 rfl rfl (fun h=>by cases h);refine og_when (p:=(PP.val (.bool kp):PP _).p) rfl (when_in qg) ?_;intro hg0;clear qg;have hg1:=(Bool.and_eq_true_iff.1 hg0).1
   have q21:f 6= .agg #[.int .i64 s2,.slice ay ny py,.bool bby,.slice a1y n1y c1y,.slice a2y n2y c2y]:=(tellV hp 0 6 rfl rfl (fun h=>by cases h)).1 hg0
   have q22:=(tellV hp 1 7 rfl rfl (fun _=>hE)).1 hg0;change OpGoal _ _ _ f w2 Ext _;refine oC #[f 6,f 7] Tryz.func93 rfl rfl ?_;rw[q21];refine(kept11_calls k 5 _ _ (s2,m,x2) ((0:Int):Rat) _ (CnR.mk' (HTy.out.ext (E3.trans hE)) (HRy.out.ext (E3.trans hE))) q22.cq hk hz0 (by omega)).mono ?_;rintro e w' ⟨rfl,h2⟩
   exact⟨_,rfl,h2,by rw[HKP.out]<;>rfl⟩
  ·intro f w2 hG hp hl;have qg:=tellV hp 2 2 rfl rfl (fun h=>by cases h);refine og_when (p:=(PP.val (.bool (cb&&kp)):PP _).p) rfl (when_f qg) ?_;intro hg0;clear qg
   have q20:f 5= .bool cb:=(tellV hp 0 5 rfl rfl (fun h=>by cases h)).1 hg0
   have q23:=tellV hp 1 8 rfl rfl (fun h=>by cases h);change OpGoal _ _ _ f w2 Ext _;exact og_pickA (P:=Tryz.prog) _ _ rfl rfl q20 (fun h=>q23.1 (by rw[hg0,h];rfl)) rfl
  ·intro f w2 hG hp hl;have q17:=tE hp 0 2 rfl rfl rfl;have q24:=tellV hp 1 9 rfl rfl (fun h=>by cases h);change OpGoal _ _ _ f w2 Ext _;exact og_pickO (P:=Tryz.prog) _ _ rfl rfl q17 (fun h=>q24.1 (by rw[h];rfl)) rfl
 ·intro f w4 hG hp;have hE:Ext w3 w4:=ChgS.nil hG
  have q25:f 10= .bool (fa || ((cb&&kp))):=endV hp 10 (by decide) rfl (fun h=>by cases h)
  try simp only[q25]
  clear hp;have E4:=E3.trans hE;have B4:=B3.ext hE;have Q4:=Q3.ext hE;clear B3 Q3 hE E3
  have HD1:Hid (domC (s,l,x) (s2,m,x2)=((fa || (cb&&kp)) || (likeC (s,l,x) (s2,m,x2)&&(decide (s=s2∨s=3)&&keptQ s2 x x2)))):=Lib.hid (by rw[HD.out,←HCB.out,←HFA.out,HKP.out];rfl)
  obtain⟨r,hr⟩:∃r,r=(fa || (cb&&kp)):=⟨_,rfl⟩;rw[←hr];rw[←hr]at HD1;clear hr HD HCB HFA HKP
  cases r with
  |true=>
   go_wp2;go_ret
   exact⟨by rw[HD1.out]<;>rfl,E4⟩
  |false=>
   have hb0:=B4.cell 0;have hb1:=B4.cell 1;have hb2:=B4.cell 2;have hb3:=B4.cell 3;have hb4:=B4.cell 4;have hy0:=Q4.cell 0;have hy1:=Q4.cell 1;have hy2:=Q4.cell 2;have hy3:=Q4.cell 3;have hy4:=Q4.cell 4;go_wp2_with fail;refine(alike11_calls k _ _ (s,l,x) (s2,m,x2) w4 (CnR.mk' (HT.out.ext E4) (HR.out.ext E4)) (CnR.mk' (HTy.out.ext E4) (HRy.out.ext E4)) hk hn hn2).mono ?_;rintro e w5 ⟨rfl,e5⟩;have E5:=E4.trans e5;have B5:=B4.ext e5;have Q5:=Q4.ext e5;clear hb0 hb1 hb2 hb3 hb4 hy0 hy1 hy2 hy3 hy4 B4 Q4 E4 e5;obtain⟨la,hla⟩:∃la,la=likeC (s,l,x) (s2,m,x2):=⟨_,rfl⟩;rw[←hla]at HD1 ⊢;clear hla
   cases la with
   |false=>
    go_wp2;go_ret
    exact⟨by rw[HD1.out]<;>rfl,E5⟩
   |true=>
    have hb0:=B5.cell 0;have hy0:=Q5.cell 0;obtain⟨kq,hkq⟩:∃kq,kq=keptQ s2 x x2:=⟨_,rfl⟩;rw[←hkq]at HD1;have HKQ:=Lib.hid hkq;clear hkq
    by_cases hss:s=s2
    ·have hse:(s !=s2)=false:=by simpa using hss
     have HF:Hid (domC (s,l,x) (s2,m,x2)=kq):=Lib.hid (by rw[HD1.out,decide_eq_true (show s=s2∨s=3 from .inl hss)];rfl)
     clear hss HD1;go_wp2_with fail;refine wpQ [PP.val (.agg #[.int .i64 s2,.slice ay ny py,.bool bby,.slice a1y n1y c1y,.slice a2y n2y c2y]),PP.val (.pointer (some ⟨w.heap.size,2,none⟩)),PP.val (.agg #[.bool b,.slice a1 n1 c1,.slice a2 n2 c2]),PP.frQd x,PP.val (.bool kq),PP.val (.bool kq)] [] [0,1,2,3,4,5] ?_ ?_
     ·refine⟨?_,?_,?_,?_,?_,?_,trivial⟩
      ·intro f w2 hG hp hl;have hE:Ext w5 w2:=hG;change OpGoal _ _ _ f w2 Ext _;exact og_load (P:=Tryz.prog) _ _ (w.heap.size+1) _ _ _ rfl rfl rfl (Q5.ext hE) Tryz.underlying36 rfl (by kernel_rfl) rfl
      ·intro f w2 hG hp hl;simp only[OpGoal];go_simp;exact⟨_,rfl,Ext.refl _,rfl⟩
      ·intro f w2 hG hp hl;have hE:Ext w5 w2:=hG;have q43:=tE hp 0 1 rfl rfl rfl;have hbx:=B5.ext hE;have hcell0:=hbx.cell 0;have hcell1:=hbx.cell 1;have hcell2:=hbx.cell 2;have hcell3:=hbx.cell 3;have hcell4:=hbx.cell 4;simp only[OpGoal];go_simp;exact⟨_,rfl,Ext.refl _,rfl⟩
      ·intro f w2 hG hp hl;have hE:Ext w5 w2:=hG;have hS:=hE.size;have q44:=tE hp 0 2 rfl rfl rfl;change OpGoal _ _ _ f w2 Ext _;refine oC #[f 2] Tryz.func55 rfl rfl ?_;rw[q44];refine(rqofR_calls _ x k _ (HR.out.ext (E5.trans hE)) hk).mono ?_;rintro e w' ⟨v',rfl,h1,h2⟩;exact⟨v',rfl,h2,h1.mono hS⟩
      ·intro f w2 hG hp hl;have hE:Ext w5 w2:=hG;have hS:=hE.size;have q42:=tE hp 0 0 rfl rfl rfl;have q45:=tellV hp 1 3 rfl rfl (fun _=>hE);change OpGoal _ _ _ f w2 Ext _;refine oC #[f 0,f 3] Tryz.func93 rfl rfl ?_;rw[q42];refine(kept11_calls k (5*k) _ _ (s2,m,x2) x _ (CnR.mk' (HTy.out.ext (E5.trans hE)) (HRy.out.ext (E5.trans hE))) q45.cq hk hzx (by omega)).mono ?_;rintro e w' ⟨rfl,h2⟩
       exact⟨_,rfl,h2,by rw[HKQ.out]<;>rfl⟩
      ·intro f w2 hG hp hl;have q46:=tE hp 0 4 rfl rfl rfl;exact⟨_,rfl,Ext.refl _,q46⟩
     ·intro f w6 hG hp;have hE:Ext w5 w6:=ChgS.nil hG
      have q4:f 5= .bool kq:=endV hp 5 (by decide) rfl (fun h=>by cases h)
      try simp only[q4]
      clear hp;have X:=E5.trans hE;clear B5 Q5 hE;go_wp2;go_ret
      exact⟨by rw[HF.out]<;>rfl,X⟩
    have hse:(s !=s2)=true:=by rw[bne_iff_ne];exact hss
    by_cases h3:s=3
    ·have hs3:(s !=3)=false:=by simpa using h3
     have HF:Hid (domC (s,l,x) (s2,m,x2)=kq):=Lib.hid (by rw[HD1.out,decide_eq_true (show s=s2∨s=3 from .inr h3)];rfl)
     clear hss h3 HD1;go_wp2_with fail;refine wpQ [PP.val (.agg #[.int .i64 s2,.slice ay ny py,.bool bby,.slice a1y n1y c1y,.slice a2y n2y c2y]),PP.val (.pointer (some ⟨w.heap.size,2,none⟩)),PP.val (.agg #[.bool b,.slice a1 n1 c1,.slice a2 n2 c2]),PP.frQd x,PP.val (.bool kq),PP.val (.bool kq)] [] [0,1,2,3,4,5] ?_ ?_
     ·refine⟨?_,?_,?_,?_,?_,?_,trivial⟩
      ·intro f w2 hG hp hl;have hE:Ext w5 w2:=hG;change OpGoal _ _ _ f w2 Ext _;exact og_load (P:=Tryz.prog) _ _ (w.heap.size+1) _ _ _ rfl rfl rfl (Q5.ext hE) Tryz.underlying36 rfl (by kernel_rfl) rfl
      ·intro f w2 hG hp hl;simp only[OpGoal];go_simp;exact⟨_,rfl,Ext.refl _,rfl⟩
      ·intro f w2 hG hp hl;have hE:Ext w5 w2:=hG;have q43:=tE hp 0 1 rfl rfl rfl;have hbx:=B5.ext hE;have hcell0:=hbx.cell 0;have hcell1:=hbx.cell 1;have hcell2:=hbx.cell 2;have hcell3:=hbx.cell 3;have hcell4:=hbx.cell 4;simp only[OpGoal];go_simp;exact⟨_,rfl,Ext.refl _,rfl⟩
      ·intro f w2 hG hp hl;have hE:Ext w5 w2:=hG;have hS:=hE.size;have q44:=tE hp 0 2 rfl rfl rfl;change OpGoal _ _ _ f w2 Ext _;refine oC #[f 2] Tryz.func55 rfl rfl ?_;rw[q44];refine(rqofR_calls _ x k _ (HR.out.ext (E5.trans hE)) hk).mono ?_;rintro e w' ⟨v',rfl,h1,h2⟩;exact⟨v',rfl,h2,h1.mono hS⟩
      ·intro f w2 hG hp hl;have hE:Ext w5 w2:=hG;have hS:=hE.size;have q42:=tE hp 0 0 rfl rfl rfl;have q45:=tellV hp 1 3 rfl rfl (fun _=>hE);change OpGoal _ _ _ f w2 Ext _;refine oC #[f 0,f 3] Tryz.func93 rfl rfl ?_;rw[q42];refine(kept11_calls k (5*k) _ _ (s2,m,x2) x _ (CnR.mk' (HTy.out.ext (E5.trans hE)) (HRy.out.ext (E5.trans hE))) q45.cq hk hzx (by omega)).mono ?_;rintro e w' ⟨rfl,h2⟩
       exact⟨_,rfl,h2,by rw[HKQ.out]<;>rfl⟩
      ·intro f w2 hG hp hl;have q46:=tE hp 0 4 rfl rfl rfl;exact⟨_,rfl,Ext.refl _,q46⟩
     ·intro f w6 hG hp;have hE:Ext w5 w6:=ChgS.nil hG
      have q4:f 5= .bool kq:=endV hp 5 (by decide) rfl (fun h=>by cases h)
      try simp only[q4]
      clear hp;have X:=E5.trans hE;clear B5 Q5 hE;go_wp2;go_ret
      exact⟨by rw[HF.out]<;>rfl,X⟩
    ·have hs3:(s !=3)=true:=by rw[bne_iff_ne];exact h3
     have HF:Hid (domC (s,l,x) (s2,m,x2)=false):=Lib.hid (by rw[HD1.out,decide_eq_false (show¬(s=s2∨s=3)by omega)];rfl)
     clear hss h3 HD1;go_wp2;go_ret
     exact⟨by rw[HF.out]<;>rfl,E5⟩
end Go.Proofs.YtokfaggcojokgaaGreat
