/-
 Constraints: the documents' help: are constraints great, the same, copied, written over (cutwaterref11.Great, cutwaterref10.SameCons, CopyCons, Copy, Same, Spoil).
-/
import Derived.Test.YtokfaggcojokgaaGreatCnaZ
import Derived.Test.YtokfaggcojokgaaGreatCmaZ
import Derived.Test.YtokfaggcojokgaaGreatCngZ
namespace Go.Proofs.YtokfaggcojokgaaGreat
set_option maxRecDepth 100000
set_option maxHeartbeats 1000000
open Go.RowKit
set_option linter.unusedVariables false
set_option linter.unusedSimpArgs false
def weightC:List CE→Nat
 | []=>0
 |c::l=>(weightE (c.2.1.map Prod.snd)+weightE [c.2.2])+weightC l
theorem weightC_snoc(l:List CE)(c:CE):weightC (l++ [c])=weightC l+weightE (c.2.1.map Prod.snd)+weightE [c.2.2]:=by
 induction l with
 |nil=>simp [weightC]
 |cons x l ih=>simp only[List.cons_append,weightC,ih];omega
def badC(c:CE):Bool:=greatV c.2.1 || decide (6<wordsE c.2.2)
def greatC(l:List CE):Bool:=l.any badC || (decide (12<l.length) || decide (18<weightC l))
theorem greatC_row{l:List CE}{c:CE}(h:c∈l)(hb:badC c=true):greatC l=true:=by
 unfold greatC;rw[List.any_eq_true.2 ⟨c,h,hb⟩]
 rfl
theorem greatC_rest{l:List CE}(h:∀c∈l,badC c=false):greatC l=(decide (12<l.length) || decide (18<weightC l)):=by
 unfold greatC;rw[List.any_eq_false.2 fun c hc=>by rw[h c hc];decide]
 rfl
theorem greatC_not{l:List CE}(h:greatC l=false):l.length≤12∧∀c∈l,c.2.1.length≤30∧(∀e∈c.2.1,wordsE e.2≤6)∧wordsE c.2.2≤6:=by
 unfold greatC at h;simp only[Bool.or_eq_false_iff,decide_eq_false_iff_not,List.any_eq_false]at h;refine⟨by omega,fun c hc=> ?_⟩;have hb:=h.1 c hc;unfold badC at hb;simp only[Bool.or_eq_true,decide_eq_true_iff,not_or,Bool.not_eq_true]at hb;obtain⟨h1,h2⟩:=greatE_not (l:=c.2.1.map Prod.snd) hb.1;rw[List.length_map]at h1;exact⟨h1,fun e he=>h2 e.2 (List.mem_map_of_mem he),by omega⟩
def PP.oneQ{S:Nat}(cs:Array Value):PP S:=⟨false,fun u w=>∃(g:Nat),S≤g∧u= .slice (some ⟨g,0,none⟩) 1 1∧Bx 34 w g cs,fun _ _ _ h hp=>(let ⟨g,h0,h1,h2⟩:=hp;⟨g,h0,h1,h2.ext h⟩),fun _ _ hg _ _ _ h hp=>(let ⟨g,h0,h1,h2⟩:=hp;⟨g,h0,h1,h2.chg h (by omega)⟩)⟩
theorem one_slq{w:World}{g:Nat}{b:Bool}{a1:Option Addr}{n1 c1:Nat}{a2:Option Addr}{n2 c2:Nat}{e:RE}(h:Bx 34 w g #[.bool b,.slice a1 n1 c1,.slice a2 n2 c2])(hR:RawE w (.agg #[.bool b,.slice a1 n1 c1,.slice a2 n2 c2]) e):SLQ w (.slice (some ⟨g,0,none⟩) 1 1) [e]:=by
 refine⟨some ⟨g,0,none⟩,1,rfl,Nat.le_refl _,by omega,.inr ⟨g,0,rfl,fun i x hx=> ?_⟩⟩
 have hi:i=0:=by
  have:=(List.getElem?_eq_some_iff.1 hx).1
  simp at this
  exact this
 subst hi;simp only[List.getElem?_cons_zero,Option.some.injEq]at hx;subst hx;exact⟨_,rfl,fun j v hj=>by rw[show 0+0*3+j=j by omega,h.cell];exact hj,hR⟩
theorem rhs_cells'{wz:World}{g o:Nat}{b s t:Value}(h2:wz.cell? ⟨g,o+2,none⟩=some b)(h3:wz.cell? ⟨g,o+3,none⟩=some s)(h4:wz.cell? ⟨g,o+4,none⟩=some t):∀(j:Nat) (v:Value),(#[b,s,t]:Array Value)[j]? =some v→wz.cell? ⟨g,o+2+j,none⟩=some v:=by
 intro j v hj
 match j,hj with
 |0,hj=>cases hj;exact h2
 |1,hj=>cases hj;exact h3
 |2,hj=>cases hj;exact h4
 |j+3,hj=>simp at hj
set_option maxHeartbeats 8000000 in
theorem greatC_calls(v:Value)(ms:List CE)(w:World)(hv:CLE w v ms)(hl:ms.length≤281474976710656):
  Calls Tryz.prog 16 #[v] w fun e w'=>e= .returned (.bool (greatC ms))∧Ext w w':=by
 obtain⟨ad,n,cap,hnl,rfl,hn1,hat⟩:=hv.at;rw[←hnl]at hl;have HN:=Lib.hid hnl;have HAT:=Lib.hid hat;clear hnl hat hv
 go_enter Tryz.func16,Tryz.ntmps16
 go_wp2_with fail
 go_loopw [3,4] (fun s3 s4 wr=>∃(i s:Nat),i≤n∧s4= .int .i64 (i:Int)∧s3= .int .i64 (s:Int)∧Hid (s=weightC (ms.take i)∧∀l∈ms.take i,badC l=false)∧s≤24*i∧Ext w wr) (fun _ s4 _=>((n:Int) - intOf s4).toNat)
 case atStart=>exact ⟨0,0,Nat.zero_le _,rfl,rfl,Lib.hid ⟨rfl,fun l hl=>by simp at hl⟩,Nat.zero_le _,Ext.refl _⟩
 case round=>
  obtain⟨i,s,hi,rfl,rfl,hS,hs18,hE0⟩:=hrel
  rcases Nat.eq_or_lt_of_le hi with hin |hin
  ·subst hin
   have hlt:¬((i:Int)<(i:Int)):=by omega
   have hG:greatC ms=(decide (12<i) || decide (18<s)):=by
    have h:=hS.out;rw[HN.out,List.take_length]at h;rw[greatC_rest h.2,h.1,←HN.out]
   have HG:=Lib.hid hG;clear hG
   by_cases h12:12<i
   ·have h12':(12:Int)<(i:Int):=by omega
    have HR:Hid (greatC ms=true):=Lib.hid (by rw[HG.out,decide_eq_true h12];rfl)
    go_wp2;go_ret
    exact⟨by rw[HR.out]<;>rfl,hE0⟩
   ·have h12':¬(12:Int)<(i:Int):=by omega
    by_cases h18:18<s
    ·have h18':(18:Int)<(s:Int):=by omega
     have HR:Hid (greatC ms=true):=Lib.hid (by rw[HG.out,decide_eq_true h18,Bool.or_true])
     go_wp2;go_ret
     exact⟨by rw[HR.out]<;>rfl,hE0⟩
    ·have h18':¬(18:Int)<(s:Int):=by omega
     have hd18:decide ((18:Int)<(s:Int))=false:=decide_eq_false h18'
     have HR:Hid (greatC ms=false):=Lib.hid (by rw[HG.out,decide_eq_false h18,decide_eq_false h12];rfl)
     go_wp2;go_ret
     exact⟨by rw[HR.out]<;>rfl,hE0⟩
  ·have hlt:(i:Int)<(n:Int):=by omega
   obtain⟨⟨cs,l,⟨xb,xs,xt⟩⟩,hx⟩:∃x,ms[i]? =some x:=⟨_,List.getElem?_eq_getElem (by rw[←HN.out];exact hin)⟩;obtain⟨g,off,rfl,ay,ny,py,bby,a1y,n1y,c1y,a2y,n2y,c2y, -, -,hcell,hTL,hRX⟩:=HAT.out i _ hx
   simp only at hcell hTL hRX
   obtain⟨hc0,hc1,hc2,hc3,hc4⟩:=hcell wr hE0;have HTL:=Lib.hid hTL;have HRX:=Lib.hid hRX;have HCE:=Lib.hid hcell;have HX:=Lib.hid (And.intro (List.mem_of_getElem? hx) (take_next hx));obtain⟨i1,hi1⟩:∃i1,i1=i+1:=⟨_,rfl⟩
   have hi1':(i:Int)+1=(i1:Int):=by omega
   have hi1n:i1≤n:=by omega
   have HI1:=Lib.hid hi1;clear hcell hx hTL hRX hi1;go_wp2_with fail;refine(great_calls _ l wr (HTL.out.ext hE0)).mono ?_;rintro e w2 ⟨rfl,e2⟩;obtain⟨p,hp⟩:∃p,p=greatV l:=⟨_,rfl⟩;rw[←hp];have HP:=Lib.hid hp;clear hp;have X2:=hE0.trans e2;clear hc0 hc1 hc2 hc3 hc4
   cases p with
   |true=>
    have HR:Hid (greatC ms=true):=Lib.hid (greatC_row HX.out.1 (by unfold badC;simp only;rw[←HP.out];rfl))
    go_wp2;go_ret
    exact⟨by rw[HR.out]<;>rfl,X2⟩
   |false=>
    obtain⟨g1,g2⟩:=greatE_not (l:=l.map Prod.snd) HP.out.symm;rw[List.length_map]at g1;have g3:=weightE_le (l:=l.map Prod.snd) HP.out.symm;have G2:=Lib.hid g2;obtain⟨hc0,hc1,hc2,hc3,hc4⟩:=HCE.out w2 X2;clear g2;go_wp2_with fail;refine(rqwords3_calls _ xb xs xt w2 (HRX.out.ext X2).1 HRX.out.2.2.2).mono ?_;rintro e w3 ⟨rfl,e3⟩;have X3:=X2.trans e3;obtain⟨t,ht⟩:∃t,t=xs.length+xt.length:=⟨_,rfl⟩;rw[←ht];have HT:=Lib.hid ht;clear ht hc0 hc1 hc2 hc3 hc4
    by_cases h6:6<t
    ·have h6':(6:Int)<(t:Int):=by omega
     have HR:Hid (greatC ms=true):=Lib.hid (greatC_row HX.out.1 (by unfold badC wordsE;simp only;rw[←HT.out,decide_eq_true h6,Bool.or_true]))
     go_wp2;go_ret
     exact⟨by rw[HR.out]<;>rfl,X3⟩
    ·have h6':¬(6:Int)<(t:Int):=by omega
     obtain⟨q,hq⟩:∃q,q=weightE (l.map Prod.snd):=⟨_,rfl⟩;obtain⟨q2,hq2⟩:∃q2,q2=weightE [((xb,xs,xt):RE)]:=⟨_,rfl⟩
     have hq6:q2≤6:=by
      rw[hq2]
      have:=heavyE_le (xb,xs,xt)
      unfold wordsE at this;simp only[weightE]at this ⊢
      have:=HT.out
      omega
     rw[←hq]at g3
     have hst:s+q+q2=weightC (ms.take i1)∧∀l∈ms.take i1,badC l=false:=by
      rw[HI1.out,HX.out.2];refine⟨by rw[weightC_snoc,←hS.out.1,hq,hq2],fun l' hl'=> ?_⟩
      rcases List.mem_append.1 hl' with h |h
      ·exact hS.out.2 l' h
      ·rw[List.mem_singleton]at h;rw[h];unfold badC wordsE
       simp only
       rw[←HP.out,←HT.out,decide_eq_false h6]
       rfl
     have HST:=Lib.hid hst;have HQ:=Lib.hid (And.intro hq hq2)
     have hb24:s+q+q2≤24*i1:=by have:=HI1.out;omega
     obtain⟨t1,ht1⟩:∃t1,t1=s+q:=⟨_,rfl⟩;obtain⟨t2,ht2⟩:∃t2,t2=t1+q2:=⟨_,rfl⟩
     have hb1:t1≤10000000000000000:=by omega
     have hw1:(s:Int)+(q:Int)=(t1:Int):=by omega
     have hw2:(t1:Int)+(q2:Int)=(t2:Int):=by omega
     have HSTT:Hid (t2=weightC (ms.take i1)∧∀l∈ms.take i1,badC l=false):=Lib.hid (by rw[ht2,ht1];exact HST.out)
     have hb2:t2≤24*i1:=by omega
     have HW:=Lib.hid (And.intro hw1 hw2)
     have hw6:xs.length+xt.length≤6:=by have:=HT.out;omega
     have HW6:=Lib.hid hw6;clear hst hq hq2 HST ht1 ht2 hw1 hw2 hw6 hb24;go_wp2_with fail;refine wpQ [PP.val (.int .i64 (s:Int)),PP.val (.slice (some ⟨g,off,none⟩) n cap),PP.val (.int .i64 (i:Int)),PP.val (.pointer (some ⟨g,off+i*5,none⟩)),PP.val (.pointer (some ⟨g,off+i*5+1,none⟩)),PP.val (.slice ay ny py),PP.val (.int .i64 (q:Int)),PP.val (.int .i64 (t1:Int)),PP.val (.slice (some ⟨g,off,none⟩) n cap),PP.val (.int .i64 (i:Int)),PP.val (.pointer (some ⟨g,off+i*5,none⟩)),PP.val (.pointer (some ⟨g,off+i*5+2,none⟩)),PP.val (.agg #[.bool bby,.slice a1y n1y c1y,.slice a2y n2y c2y]),PP.oneQ #[.bool bby,.slice a1y n1y c1y,.slice a2y n2y c2y],PP.val (.int .i64 (q2:Int)),PP.val (.int .i64 (t2:Int)),PP.val (.int .i64 (t2:Int))] [(0,16,3)] [0,1,2,3,4,5,6,7,8,9,10,11,12,13,14,15,16] ?_ ?_
     ·refine⟨?_,?_,?_,?_,?_,?_,?_,?_,?_,?_,?_,?_,?_,?_,?_,?_,?_,trivial⟩
      ·intro f w4 hG hp hl
       have l3:f 16= .int .i64 (s:Int):=hl.1 rfl
       simp only[OpGoal];go_simp;exact⟨_,rfl,Ext.refl _,rfl⟩
      ·intro f w4 hG hp hl;simp only[OpGoal];go_simp;exact⟨_,rfl,Ext.refl _,rfl⟩
      ·intro f w4 hG hp hl;simp only[OpGoal];go_simp;exact⟨_,rfl,Ext.refl _,rfl⟩
      ·intro f w4 hG hp hl;have q27:=tE hp 0 1 rfl rfl rfl;have q28:=tE hp 1 2 rfl rfl rfl;simp only[OpGoal];go_simp;exact⟨_,rfl,Ext.refl _,rfl⟩
      ·intro f w4 hG hp hl;have q29:=tE hp 0 3 rfl rfl rfl;simp only[OpGoal];go_simp;exact⟨_,rfl,Ext.refl _,rfl⟩
      ·intro f w4 hG hp hl;have hE:Ext w3 w4:=hG;have q30:=tE hp 0 4 rfl rfl rfl;have hcell:=(HCE.out _ (X3.trans hE)).2.1;simp only[OpGoal];go_simp;exact⟨_,rfl,Ext.refl _,rfl⟩
      ·intro f w4 hG hp hl;have hE:Ext w3 w4:=hG;have q31:=tE hp 0 5 rfl rfl rfl;change OpGoal _ _ _ f w4 Ext _;refine oC #[f 5] Tryz.func74 rfl rfl ?_;rw[q31];refine(weights_calls _ l _ (HTL.out.ext (X3.trans hE)) g1 (fun e he=>G2.out e.2 (List.mem_map_of_mem he))).mono ?_;rintro e w' ⟨rfl,h2⟩
       exact⟨_,rfl,h2,by rw[HQ.out.1]<;>rfl⟩
      ·intro f w4 hG hp hl;have hE:Ext w3 w4:=hG;have hS:=hE.size;have q26:=tE hp 0 0 rfl rfl rfl;have q32:=tE hp 1 6 rfl rfl rfl;have hs:=HW.out.1;simp only[OpGoal];go_simp;exact⟨_,rfl,Ext.refl _,congrArg (Value.int .i64) (Go.IntWalk.i64_in _ ⟨by omega,by omega⟩)⟩
      ·intro f w4 hG hp hl;simp only[OpGoal];go_simp;exact⟨_,rfl,Ext.refl _,rfl⟩
      ·intro f w4 hG hp hl;simp only[OpGoal];go_simp;exact⟨_,rfl,Ext.refl _,rfl⟩
      ·intro f w4 hG hp hl;have q34:=tE hp 0 8 rfl rfl rfl;have q35:=tE hp 1 9 rfl rfl rfl;simp only[OpGoal];go_simp;exact⟨_,rfl,Ext.refl _,rfl⟩
      ·intro f w4 hG hp hl;have q36:=tE hp 0 10 rfl rfl rfl;simp only[OpGoal];go_simp;exact⟨_,rfl,Ext.refl _,rfl⟩
      ·intro f w4 hG hp hl;have hE:Ext w3 w4:=hG;have q37:=tE hp 0 11 rfl rfl rfl;change OpGoal _ _ _ f w4 Ext _;have hcs:=HCE.out _ (X3.trans hE);exact og_loadAt (P:=Tryz.prog) _ _ g (off+i*5+2) _ _ rfl rfl q37 (rhs_cells' hcs.2.2.1 hcs.2.2.2.1 hcs.2.2.2.2) Tryz.underlying34 rfl (by kernel_rfl) rfl
      ·intro f w4 hG hp hl;have hE:Ext w3 w4:=hG;have hS:=hE.size;have q38:=tE hp 0 12 rfl rfl rfl;change OpGoal _ _ _ f w4 Ext _;exact og_buildSlice (P:=Tryz.prog) 23 34 1 3 _ [.agg #[.bool bby,.slice a1y n1y c1y,.slice a2y n2y c2y]] rfl rfl Tryz.underlying23 (by kernel_rfl) (by kernel_rfl) (by simp only[Act.eval];exact congrArg (fun z=> [(0,z)]) q38) rfl (by omega) (by omega) (by omega) (StrN.one rfl (all3 rfl rfl rfl)).size (fun w' he hb=>⟨_,hS,rfl,hb⟩)
      ·intro f w4 hG hp hl;have hE:Ext w3 w4:=hG;have q39:=tellV hp 0 13 rfl rfl (fun _=>hE);change OpGoal _ _ _ f w4 Ext _;refine oC #[f 13] Tryz.func75 rfl rfl ?_;obtain⟨gq, -,hvq,hbq⟩:=q39;rw[hvq];have hsl:=one_slq hbq (HRX.out.ext (X3.trans hE));refine(weight_calls _ [((xb,xs,xt):RE)] _ hsl (by simp) (fun e he=>by rw[List.mem_singleton]at he;rw[he];exact HW6.out)).mono ?_;rintro e w' ⟨rfl,h2⟩
       exact⟨_,rfl,h2,by rw[HQ.out.2]<;>rfl⟩
      ·intro f w4 hG hp hl;have hE:Ext w3 w4:=hG;have hS:=hE.size;have q33:=tE hp 0 7 rfl rfl rfl;have q40:=tE hp 1 14 rfl rfl rfl;have hs:=HW.out.2;simp only[OpGoal];go_simp;exact⟨_,rfl,Ext.refl _,congrArg (Value.int .i64) (Go.IntWalk.i64_in _ ⟨by omega,by omega⟩)⟩
      ·intro f w4 hG hp hl;have q41:=tE hp 0 15 rfl rfl rfl;simp only[OpGoal];go_simp;exact⟨_,rfl,Ext.refl _,rfl⟩
     ·intro f w4 hG hp;have hE:Ext w3 w4:=ChgS.nil hG
      have q3:f 16= .int .i64 (t2:Int):=endV hp 16 (by decide) rfl (fun h=>by cases h)
      try simp only[q3]
      clear hp;have X4:=X3.trans hE;clear hE;go_wp2;go_roundw
      case rel=>exact ⟨i1,t2,hi1n,rfl,rfl,HSTT,hb2,X4⟩
      case measure=>have:=HI1.out;simp[intOf];omega
def sameE(a b:CE):Bool:=decide (a.1=b.1)&&(decide (a.2.1=b.2.1)&&decide ((a.2.2.1=b.2.2.1∧a.2.2.2.1=b.2.2.2.1)∧a.2.2.2.2=b.2.2.2.2))
theorem sameE_iff{a b:CE}:sameE a b=true↔a=b:=by
 obtain⟨s,l,xb,xs,xt⟩:=a;obtain⟨s2,m,yb,ys,yt⟩:=b;unfold sameE;simp only[Bool.and_eq_true,decide_eq_true_iff,Prod.mk.injEq]
 constructor
 ·rintro⟨h1,h2,⟨h3,h4⟩,h5⟩;exact⟨h1,h2,h3,h4,h5⟩
 ·rintro⟨h1,h2,h3,h4,h5⟩;exact⟨h1,h2,⟨h3,h4⟩,h5⟩
theorem sameE_self(a:CE):sameE a a=true:=sameE_iff.2 rfl
set_option maxHeartbeats 4000000 in
theorem sameCons_calls(v u:Value)(a b:CE)(w:World)(hv:CnE w v a)(hu:CnE w u b):
  Calls Tryz.prog 23 #[v,u] w fun e w'=>e= .returned (.bool (sameE a b))∧Ext w w':=by
 obtain⟨s,l,⟨xb,xs,xt⟩⟩:=a;obtain⟨s2,m,⟨yb,ys,yt⟩⟩:=b;obtain⟨a,n,p,b,a1,n1,c1,a2,n2,c2,rfl,ht,hr⟩:=hv.op;have HT:=Lib.hid ht;have HR:=Lib.hid hr;clear ht hr;obtain⟨ay,ny,py,bby,a1y,n1y,c1y,a2y,n2y,c2y,rfl,hty,hry⟩:=hu.op;have HTy:=Lib.hid hty;have HRy:=Lib.hid hry;clear hty hry;obtain⟨w1,hw1,e1,b1_,b2_,s1⟩:=alloc2 w #[.int .i64 s,.slice a n p,.bool b,.slice a1 n1 c1,.slice a2 n2 c2] #[.int .i64 s2,.slice ay ny py,.bool bby,.slice a1y n1y c1y,.slice a2y n2y c2y] 36 36
 by_cases hss:s=s2
 ·have hse:(s==s2)=true:=by simpa using hss
  have HSS:=Lib.hid hss;clear hss
  go_enter Tryz.func23,Tryz.ntmps23
  go_wp2_with fail;rw[←hw1];refine(vsame_calls _ _ l m w1 (HT.out.ext e1) (HTy.out.ext e1)).mono ?_;rintro e w2 ⟨rfl,e2⟩;have E2:=e1.trans e2;have B2:=b1_.ext e2;have Q2:=b2_.ext e2;obtain⟨p,hp⟩:∃p,p=decide (l=m):=⟨_,rfl⟩;rw[←hp];have HP:=Lib.hid hp;clear hp hw1 b1_ b2_
  cases p with
  |false=>
   have HD:Hid (sameE (s,l,(xb,xs,xt)) (s2,m,(yb,ys,yt))=false):=Lib.hid (by unfold sameE;simp only;rw[←HP.out,Bool.false_and,Bool.and_false])
   go_wp2;go_ret
   exact⟨by rw[HD.out]<;>rfl,E2⟩
  |true=>
   have hb2:=B2.cell 2;have hb3:=B2.cell 3;have hb4:=B2.cell 4;have hy2:=Q2.cell 2;have hy3:=Q2.cell 3;have hy4:=Q2.cell 4;go_wp2_with fail;refine(rqsame3_calls _ _ xb yb xs xt ys yt w2 (HR.out.ext E2).1 (HRy.out.ext E2).1).mono ?_;rintro e w3 ⟨rfl,e3⟩;obtain⟨q,hq⟩:∃q,q=decide ((xb=yb∧xs=ys)∧xt=yt):=⟨_,rfl⟩;rw[←hq]
   have HD:Hid (sameE (s,l,(xb,xs,xt)) (s2,m,(yb,ys,yt))=q):=Lib.hid (by unfold sameE;simp only;rw[←HP.out,hq,decide_eq_true HSS.out,Bool.true_and,Bool.true_and])
   clear hq;go_wp2;go_ret
   exact⟨by rw[HD.out]<;>rfl,E2.trans e3⟩
 ·have hse:(s==s2)=false:=by simpa using hss
  have HD:Hid (sameE (s,l,(xb,xs,xt)) (s2,m,(yb,ys,yt))=false):=Lib.hid (by unfold sameE;simp only;rw[decide_eq_false hss,Bool.false_and])
  clear hss
  go_enter Tryz.func23,Tryz.ntmps23
  go_wp2;go_ret
  exact⟨by rw[HD.out]<;>rfl,by rw[←hw1];exact e1⟩
theorem TLO.chg{B g:Nat}{w w':World}{v:Value}{l:List TE}(h:TLO B w v l)(hc:Chg g w w')(hg:g<B):TLO B w' v l:=by
 obtain⟨⟨ts,h1,h2,h3⟩,hd⟩:=h;exact⟨⟨ts,h1,h2.chg hc hg,fun j t e a b=>⟨(h3 j t e a b).1,(h3 j t e a b).2.chg hc hg⟩⟩,hd⟩
def CnY(B:Nat)(w:World)(v:Value)(c:CE):Prop:=∃a n cp b a1 n1 c1 a2 n2 c2,v= .agg #[.int .i64 c.1,.slice a n cp,.bool b,.slice a1 n1 c1,.slice a2 n2 c2]∧TLO B w (.slice a n cp) c.2.1∧FrE B w (.agg #[.bool b,.slice a1 n1 c1,.slice a2 n2 c2]) c.2.2∧(Dig W c.2.2.2.1∧Dig W c.2.2.2.2∧c.2.2.2.1.length+c.2.2.2.2.length≤9223372036854775807)
theorem CnY.ext{B:Nat}{w w':World}{v:Value}{c:CE}(h:CnY B w v c)(he:Ext w w'):CnY B w' v c:=by
 obtain⟨a,n,cp,b,a1,n1,c1,a2,n2,c2,h1,h2,h3,h4⟩:=h;exact⟨a,n,cp,b,a1,n1,c1,a2,n2,c2,h1,h2.ext he,FrR.ext h3 he,h4⟩
theorem CnY.chg{B g:Nat}{w w':World}{v:Value}{c:CE}(h:CnY B w v c)(hc:Chg g w w')(hg:g<B):CnY B w' v c:=by
 obtain⟨a,n,cp,b,a1,n1,c1,a2,n2,c2,h1,h2,h3,h4⟩:=h;exact⟨a,n,cp,b,a1,n1,c1,a2,n2,c2,h1,h2.chg hc hg,FrR.chg h3 hc hg,h4⟩
theorem CnY.mono{B B':Nat}{w:World}{v:Value}{c:CE}(h:CnY B w v c)(hB:B'≤B):CnY B' w v c:=by
 obtain⟨a,n,cp,b,a1,n1,c1,a2,n2,c2,h1,h2,h3,h4⟩:=h;exact⟨a,n,cp,b,a1,n1,c1,a2,n2,c2,h1,h2.mono hB,FrR.mono h3 hB,h4⟩
theorem CnY.cnE{B:Nat}{w:World}{v:Value}{c:CE}(h:CnY B w v c):CnE w v c:=by
 obtain⟨a,n,cp,b,a1,n1,c1,a2,n2,c2,h1,h2,h3,h4⟩:=h;exact⟨a,n,cp,b,a1,n1,c1,a2,n2,c2,h1,h2.tle,FrR.raw h3,h4⟩
def PP.cnY{S:Nat}(c:CE):PP S:=⟨false,fun u w=>CnY S w u c,fun _ _ _ h hp=>hp.ext h,fun _ _ hg _ _ _ h hp=>hp.chg h hg⟩
def PP.tlo{S:Nat}(l:List TE):PP S:=⟨false,fun u w=>TLO S w u l,fun _ _ _ h hp=>hp.ext h,fun _ _ hg _ _ _ h hp=>hp.chg h hg⟩
def PP.frE{S:Nat}(e:RE):PP S:=⟨false,fun u w=>FrE S w u e,fun _ _ _ h hp=>FrR.ext hp h,fun _ _ hg _ _ _ h hp=>FrR.chg hp h hg⟩
set_option maxHeartbeats 4000000 in
theorem copyCons_calls(v:Value)(c:CE)(w:World)(hv:CnE w v c)(hn:c.2.1.length≤1000)(hl:∀e∈c.2.1,wordsE e.2≤6)(hr:wordsE c.2.2≤6):
  Calls Tryz.prog 27 #[v] w fun e w'=>∃v',e= .returned v'∧CnY w.heap.size w' v' c∧Ext w w':=by
 obtain⟨s,l,⟨xb,xs,xt⟩⟩:=c
 simp only at hn hl hr
 obtain⟨a,n,p,b,a1,n1,c1,a2,n2,c2,rfl,ht,hr⟩:=hv.op;have HT:=Lib.hid ht;have HR:=Lib.hid hr;clear ht hr;unfold wordsE at hr
 simp only at hr
 have HL:=Lib.hid hl;have HD:=Lib.hid HR.out.2;clear hl
 go_enter Tryz.func27,Tryz.ntmps27
 go_wp2_with fail;obtain⟨w1,hw1,e1,b1,b2,s1⟩:=alloc2 w #[.int .i64 s,.slice a n p,.bool b,.slice a1 n1 c1,.slice a2 n2 c2] #[.int .i64 0,.slice none 0 0,.bool false,.slice none 0 0,.slice none 0 0] 36 36;rw[←hw1];clear hw1;refine wpP [⟨9,(w.heap.size+1),36,PP.cnY (s,l,(xb,xs,xt))⟩] [PP.val (.pointer (some ⟨w.heap.size,0,none⟩)),PP.val (.int .i64 s),PP.val (.pointer (some ⟨w.heap.size,1,none⟩)),PP.val (.slice a n p),PP.tlo l,PP.val (.pointer (some ⟨w.heap.size,2,none⟩)),PP.val (.agg #[.bool b,.slice a1 n1 c1,.slice a2 n2 c2]),PP.frE (xb,xs,xt),PP.cnY (s,l,(xb,xs,xt)),PP.any] [] [9,8,7,6,5,4,3,2,1,0] ?_ ?_ ?_ ?_ ?_
 ·intro x hx;simp only[List.mem_singleton]at hx;subst hx;exact⟨by show(w.heap.size+1)<w1.heap.size;omega,rfl⟩
 ·intro x hx;simp only[List.mem_singleton]at hx;subst hx;rfl
 ·intro x hx y hy h;simp only[List.mem_singleton]at hx hy;subst hx hy;exact absurd rfl h
 ·refine⟨?_,?_,?_,?_,?_,?_,?_,?_,?_,?_,trivial⟩
  ·intro f w2 hG hp hl;simp only[OpGoal];go_simp;exact⟨_,rfl,Ext.refl _,rfl⟩
  ·intro f w2 hG hp hl;have hE:Ext w1 w2:=hG;have q3:=tE hp 0 0 rfl rfl rfl;have hcell:=(b1.ext hE).cell 0;simp only[OpGoal];go_simp;exact⟨_,rfl,Ext.refl _,rfl⟩
  ·intro f w2 hG hp hl;simp only[OpGoal];go_simp;exact⟨_,rfl,Ext.refl _,rfl⟩
  ·intro f w2 hG hp hl;have hE:Ext w1 w2:=hG;have q5:=tE hp 0 2 rfl rfl rfl;have hcell:=(b1.ext hE).cell 1;simp only[OpGoal];go_simp;exact⟨_,rfl,Ext.refl _,rfl⟩
  ·intro f w2 hG hp hl;have hE:Ext w1 w2:=hG;have hS:=hE.size;have q6:=tE hp 0 3 rfl rfl rfl;change OpGoal _ _ _ f w2 Ext _;refine oC #[f 3] Tryz.func89 rfl rfl ?_;rw[q6];refine(copy5o_calls _ l _ (HT.out.ext (e1.trans hE)) hn HL.out).mono ?_;rintro e w' ⟨v',rfl,h1,h2⟩;exact⟨v',rfl,h2,h1.mono hS⟩
  ·intro f w2 hG hp hl;simp only[OpGoal];go_simp;exact⟨_,rfl,Ext.refl _,rfl⟩
  ·intro f w2 hG hp hl;have hE:Ext w1 w2:=hG;have q8:=tE hp 0 5 rfl rfl rfl;have hbx:=b1.ext hE;have hcell0:=hbx.cell 0;have hcell1:=hbx.cell 1;have hcell2:=hbx.cell 2;have hcell3:=hbx.cell 3;have hcell4:=hbx.cell 4;simp only[OpGoal];go_simp;exact⟨_,rfl,Ext.refl _,rfl⟩
  ·intro f w2 hG hp hl;have hE:Ext w1 w2:=hG;have hS:=hE.size;have q9:=tE hp 0 6 rfl rfl rfl;change OpGoal _ _ _ f w2 Ext _;refine oC #[f 6] Tryz.func76 rfl rfl ?_;rw[q9];refine(rqcopy3_calls _ xb xs xt _ ((HR.out.ext (e1.trans hE)).1) (by omega) (by omega)).mono ?_;rintro e w' ⟨v',rfl,h1,h2⟩;exact⟨v',rfl,h2,FrR.mono h1 hS⟩
  ·intro f w2 hG hp hl;have hE:Ext w1 w2:=hG;have q4:=tE hp 0 1 rfl rfl rfl;have q7:=tellV hp 1 4 rfl rfl (fun _=>hE);have q10:=tellV hp 2 7 rfl rfl (fun _=>hE);obtain⟨ad,n9,cap,hv⟩:=TLO.val q7;obtain⟨ad1,l1,cap1,ad2,l2,cap2,hv2,hq⟩:=FrR.opn q10;simp only[OpGoal];go_simp;exact⟨_,rfl,Ext.refl _,_,_,_,_,_,_,_,_,_,_,rfl,hv▸q7,hq,HD.out⟩
  ·intro f w2 hG hp hl;have hE:Ext w1 w2:=hG;have hS:=hE.size;have q11:=tellV hp 0 8 rfl rfl (fun _=>hE);intro hg0;change OpGoal _ _ _ f w2 (Chg _) _;obtain⟨a',n',p',b',a1',n1',c1',a2',n2',c2',hv,ht,hq,hz⟩:=q11;exact og_store (P:=Tryz.prog) _ _ _ (w.heap.size+1) _ _ _ (PP.cnY (s,l,(xb,xs,xt)):PP _).p rfl rfl rfl hv (show Bx 36 w2 _ _ from hg0.trans b2) (by kernel_rfl) rfl (all5 rfl rfl rfl rfl rfl) (fun w' h=>⟨a',n',p',b',a1',n1',c1',a2',n2',c2',rfl,ht.chg h (by omega),FrR.chg hq h (by omega),hz⟩)
 ·intro f w2 hG hp;obtain⟨cs0,hbx0,hz0⟩:∃cs,Bx 36 w2 (w.heap.size+1) cs∧(PP.cnY (s,l,(xb,xs,xt)):PP w1.heap.size).p (.agg cs) w2:=endS hp 9 (by decide);clear hp;have hz1:=hz0.mono (show w.heap.size≤_ by omega);obtain⟨a',n',p',b',a1',n1',c1',a2',n2',c2',hvv,hnn,hmm,hzz⟩:=hz0
  cases hvv
  go_wp2;refine ret_box 2 36 (w.heap.size+1) 36 _ _ (by kernel_rfl) rfl hbx0 Tryz.underlying36 rfl (by kernel_rfl) rfl ?_;exact⟨_,rfl,hz1,e1.stepS hG (by simp)⟩
theorem sameCons_true(v u:Value)(a:CE)(w:World)(hv:CnE w v a)(hu:CnE w u a):Calls Tryz.prog 23 #[v,u] w fun e w'=>e= .returned (.bool true)∧Ext w w':=by
 refine(sameCons_calls v u a a w hv hu).mono ?_;rintro e w' ⟨rfl,h⟩;exact⟨by rw[sameE_self],h⟩
def SpC(Q:Nat→Prop)(w:World)(v:Value):Prop:=∃s a n cp b a1 n1 c1 a2 n2 c2,v= .agg #[.int .i64 s,.slice a n cp,.bool b,.slice a1 n1 c1,.slice a2 n2 c2]∧SpW Q w (.slice a n cp)∧ShpR Q w (.agg #[.bool b,.slice a1 n1 c1,.slice a2 n2 c2])
theorem SpC.hurtW{Q Q1:Nat→Prop}{w w':World}{v:Value}(h:SpC Q w v)(he:HurtW Q1 w w'):SpC Q w' v:=by
 obtain⟨s,a,n,cp,b,a1,n1,c1,a2,n2,c2,h1,h2,h3⟩:=h;exact⟨s,a,n,cp,b,a1,n1,c1,a2,n2,c2,h1,h2.hurtW he,h3.hurtW he⟩
theorem SpC.ext{Q:Nat→Prop}{w w':World}{v:Value}(h:SpC Q w v)(he:Ext w w'):SpC Q w' v:=h.hurtW (he.hurtsW fun _=>True)
theorem CnO.spc{B k B1:Nat}{w:World}{v:Value}{c:CR}(h:CnO B k w v c)(hB:w.heap.size≤B1):SpC (fun k=>B≤k∧k<B1) w v:=by
 obtain⟨a,n,cp,b,a1,n1,c1,a2,n2,c2,h1,h2,h3,h4⟩:=h;exact⟨c.1,a,n,cp,b,a1,n1,c1,a2,n2,c2,h1,h2.spw hB,h3.shpP hB⟩
set_option maxHeartbeats 4000000 in
theorem spoilCons_calls(Q:Nat→Prop)(v:Value)(w:World)(h:SpC Q w v):
  Calls Tryz.prog 24 #[v] w fun e w'=>e= .returned (.tuple #[])∧HurtW Q w w':=by
 obtain⟨s,a,n,p,b,a1,n1,c1,a2,n2,c2,rfl,h1,h2⟩:=h;have H1:=Lib.hid h1;have H2:=Lib.hid h2;clear h1 h2;obtain⟨w1,hw1,e1,b1_,s1⟩:=alloc1 w #[.int .i64 s,.slice a n p,.bool b,.slice a1 n1 c1,.slice a2 n2 c2] 36
 go_enter Tryz.func24,Tryz.ntmps24
 go_wp2_with fail;rw[←hw1];refine(spoil5w_calls Q _ w1 (H1.out.ext e1)).mono ?_;rintro e w2 ⟨rfl,h2⟩;have hb:=b1_.hurtW h2 (by decide) (by decide);have hb2:=hb.cell 2;have hb3:=hb.cell 3;have hb4:=hb.cell 4;have HS:=Lib.hid ((e1.hurtsW Q).trans h2);clear hw1 b1_ hb;go_wp2_with fail;refine(spoilP_calls _ Q w2 (H2.out.hurtW HS.out)).mono ?_;rintro e w3 ⟨rfl,h3⟩;go_wp2
 go_end0
 exact⟨rfl,HS.out.trans h3.w⟩
set_option maxHeartbeats 4000000 in
theorem wholec_calls(n:Int)(w:World)(h0: -9223372036854775808≤n)(h1:n≤9223372036854775807):
  Calls Tryz.prog 41 #[.int .i64 n] w fun e w'=>∃v',e= .returned v'∧FrQ w.heap.size w' v' (n:Rat)∧Ext w w':=by
 have sn:=szD_int n;have tn:=szT_small (z:=n) (by omega)
 go_enter Tryz.func41,Tryz.ntmps41
 obtain⟨w1,hw1,e1,b1,s1⟩:=alloc1 w #[.bool false,.slice none 0 0,.slice none 0 0] 34;go_wp2_with fail;rw[←hw1];refine(rqsmall3_calls n _ h0 h1).mono ?_;rintro e w2 ⟨v2,rfl,q2,e2⟩;go_wp2_with fail;refine(rqto3_calls _ (n:Rat) _ q2.cq (by omega)).mono ?_;rintro e w5 ⟨v5,rfl,q5,e5⟩;obtain⟨s',t',rfl,hn,hm⟩:=q5;obtain⟨ad5,cap5,rfl⟩:=hn.slice;obtain⟨ad6,cap6,rfl⟩:=hm.slice;have Hn5:=Lib.hid hn;have Hm5:=Lib.hid hm;have E25:=e2.trans e5;have hsz:=e2.size;clear hn hm;have hb:=b1.ext E25;have hc0:=hb.cell 0;have hc1:=hb.cell 1;have hc2:=hb.cell 2;have hf0:=hb.free 0;have hf1:=hb.free 1;have hf2:=hb.free 2;go_wp2;refine ret_box 2 34 w.heap.size 34 _ _ (by kernel_rfl) rfl (((hb.set 0 _).set 1 _).set 2 _) Tryz.underlying34 rfl (by kernel_rfl) rfl ?_;exact⟨_,rfl,⟨_,_,rfl,(Hn5.out.chg (Chg.trans (Chg.trans (Chg.setCell _ w.heap.size 0 _) (Chg.setCell _ w.heap.size 1 _)) (Chg.setCell _ w.heap.size 2 _)) (by omega)).mono (by omega),(Hm5.out.chg (Chg.trans (Chg.trans (Chg.setCell _ w.heap.size 0 _) (Chg.setCell _ w.heap.size 1 _)) (Chg.setCell _ w.heap.size 2 _)) (by omega)).mono (by omega)⟩,(e1.trans E25).step (Chg.trans (Chg.trans (Chg.setCell _ w.heap.size 0 _) (Chg.setCell _ w.heap.size 1 _)) (Chg.setCell _ w.heap.size 2 _)) (by omega)⟩
def OnP(B:Nat)(w:World)(v:Value)(s:Int)(n r:Rat):Prop:=∃gT tb ta1 tn1 tc1 ta2 tn2 tc2 b a1 n1 c1 a2 n2 c2,B≤gT∧v= .agg #[.int .i64 s,.slice (some ⟨gT,0,none⟩) 1 1,.bool b,.slice a1 n1 c1,.slice a2 n2 c2]∧
 Bx 96 w gT #[.int .i64 0,.bool tb,.slice ta1 tn1 tc1,.slice ta2 tn2 tc2]∧FrQ B w (.agg #[.bool tb,.slice ta1 tn1 tc1,.slice ta2 tn2 tc2]) n∧FrQ B w (.agg #[.bool b,.slice a1 n1 c1,.slice a2 n2 c2]) r
theorem OnP.ext{B:Nat}{w w':World}{v:Value}{s:Int}{n r:Rat}(h:OnP B w v s n r)(he:Ext w w'):OnP B w' v s n r:=by
 obtain⟨gT,tb,ta1,tn1,tc1,ta2,tn2,tc2,b,a1,n1,c1,a2,n2,c2,h0,h1,h2,h3,h4⟩:=h;exact⟨gT,tb,ta1,tn1,tc1,ta2,tn2,tc2,b,a1,n1,c1,a2,n2,c2,h0,h1,h2.ext he,h3.ext he,h4.ext he⟩
theorem OnP.chg{B g:Nat}{w w':World}{v:Value}{s:Int}{n r:Rat}(h:OnP B w v s n r)(he:Chg g w w')(hg:g<B):OnP B w' v s n r:=by
 obtain⟨gT,tb,ta1,tn1,tc1,ta2,tn2,tc2,b,a1,n1,c1,a2,n2,c2,h0,h1,h2,h3,h4⟩:=h;exact⟨gT,tb,ta1,tn1,tc1,ta2,tn2,tc2,b,a1,n1,c1,a2,n2,c2,h0,h1,h2.chg he (by omega),h3.chg he hg,h4.chg he hg⟩
theorem OnP.mono{B B':Nat}{w:World}{v:Value}{s:Int}{n r:Rat}(h:OnP B w v s n r)(hB:B'≤B):OnP B' w v s n r:=by
 obtain⟨gT,tb,ta1,tn1,tc1,ta2,tn2,tc2,b,a1,n1,c1,a2,n2,c2,h0,h1,h2,h3,h4⟩:=h;exact⟨gT,tb,ta1,tn1,tc1,ta2,tn2,tc2,b,a1,n1,c1,a2,n2,c2,by omega,h1,h2,h3.mono hB,h4.mono hB⟩
theorem to_one{B k gT:Nat}{w:World}{tb:Bool}{ta1:Option Addr}{tn1 tc1:Nat}{ta2:Option Addr}{tn2 tc2:Nat}{q:Rat}(hB:B≤gT)(hb:Bx 96 w gT #[.int .i64 0,.bool tb,.slice ta1 tn1 tc1,.slice ta2 tn2 tc2])(hq:FrQ B w (.agg #[.bool tb,.slice ta1 tn1 tc1,.slice ta2 tn2 tc2]) q)(hs:szQ q≤k):TO B k w (.slice (some ⟨gT,0,none⟩) 1 1) [(0,q)]:=by
 have:=LS.of_hold (e:=96) (n:=4) (B:=B) (w:=w) (vs:=(tsP [((⟨0,tb,ta1,tn1,tc1,ta2,tn2,tc2⟩:TmC),q)]).map tmv) (g:=gT) (cap:=1) (rest:=[]) (strN_tmv _) hB (Nat.le_refl _) (by omega) rfl hb
 exact TO.of_ps this fun p hp=>by
  rw[List.mem_singleton]at hp;subst hp;exact⟨hq,hs⟩
theorem OnP.cnO{B k:Nat}{w:World}{v:Value}{s:Int}{n r:Rat}(h:OnP B w v s n r)(hn:szQ n≤k)(hr:szQ r≤k):CnO B k w v (s,[(0,n)],r):=by
 obtain⟨gT,tb,ta1,tn1,tc1,ta2,tn2,tc2,b,a1,n1,c1,a2,n2,c2,h0,h1,h2,h3,h4⟩:=h;exact⟨_,_,_,b,a1,n1,c1,a2,n2,c2,h1,to_one h0 h2 h3 hn,h4,hr⟩
def PP.onP{S:Nat}(s:Int)(n r:Rat):PP S:=⟨false,fun u w=>OnP S w u s n r,fun _ _ _ h hp=>hp.ext h,fun _ _ hg _ _ _ h hp=>hp.chg h hg⟩
set_option maxHeartbeats 4000000 in
theorem onec_calls(s n r:Int)(w:World)(h0: -9223372036854775808≤n)(h1:n≤9223372036854775807)(h2: -9223372036854775808≤r)(h3:r≤9223372036854775807):
  Calls Tryz.prog 71 #[.int .i64 s,.int .i64 n,.int .i64 r] w fun e w'=>∃v',e= .returned v'∧OnP w.heap.size w' v' s (n:Rat) (r:Rat)∧Ext w w':=by
 obtain⟨w1,hw1,e1,b1,s1⟩:=alloc1 w #[.int .i64 0,.slice none 0 0,.bool false,.slice none 0 0,.slice none 0 0] 36
 go_enter Tryz.func71,Tryz.ntmps71
 go_wp2_with fail;rw[←hw1];refine(wholec_calls n w1 h0 h1).mono ?_;rintro e w2 ⟨v2,rfl,q2,e2⟩;obtain⟨tb,ta1,tn1,tc1,ta2,tn2,tc2,rfl,q2⟩:=q2.opn;have hs2:=e2.size;obtain⟨w3,hw3,e3,b3,s3⟩:=alloc1 w2 #[.int .i64 0,.bool tb,.slice ta1 tn1 tc1,.slice ta2 tn2 tc2] 96;have Q3:=Lib.hid (q2.ext e3);clear q2;go_wp2_with fail;rw[←hw3];refine(wholec_calls r w3 h2 h3).mono ?_;rintro e w4 ⟨v4,rfl,q4,e4⟩;obtain⟨b,a1,n1,c1,a2,n2,c2,rfl,q4⟩:=q4.opn;have hs4:=e4.size;have E24:=(e2.trans e3).trans e4;have Q4:=Lib.hid (And.intro (q4.mono (show w.heap.size+1≤_ by omega)) ((Q3.out.ext e4).mono (show w.heap.size+1≤_ by omega)));have BT:=b3.ext e4;have hq:=b1.ext E24;have hq0:=hq.cell 0;have hf0:=hq.free 0;have hq1:=hq.cell 1;have hf1:=hq.free 1;have hq2:=hq.cell 2;have hf2:=hq.free 2;have hq3:=hq.cell 3;have hf3:=hq.free 3;have hq4:=hq.cell 4;have hf4:=hq.free 4;clear hw1 hw3 q4 b3 b1 e3 e4 Q3;have X4:=Lib.hid (e1.trans E24);clear e1 e2 E24;go_wp2;have hc:=((((Chg.setCell w4 w.heap.size 0 (.int .i64 s)).trans (Chg.setCell _ w.heap.size 1 (.slice (some ⟨w2.heap.size,0,none⟩) 1 1))).trans (Chg.setCell _ w.heap.size 2 (.bool b))).trans (Chg.setCell _ w.heap.size 3 (.slice a1 n1 c1))).trans (Chg.setCell _ w.heap.size 4 (.slice a2 n2 c2));refine ret_box 6 36 w.heap.size 36 _ _ (by kernel_rfl) rfl (((((hq.set 0 _).set 1 _).set 2 _).set 3 _).set 4 _) Tryz.underlying36 rfl (by kernel_rfl) rfl ?_
 exact⟨_,rfl,⟨w2.heap.size,tb,ta1,tn1,tc1,ta2,tn2,tc2,b,a1,n1,c1,a2,n2,c2,by omega,rfl,BT.chg hc (by omega),(Q4.out.2.chg hc (by omega)).mono (by omega),(Q4.out.1.chg hc (by omega)).mono (by omega)⟩,X4.out.step hc (Nat.le_refl _)⟩
theorem cl_new{k g N:Nat}{w:World}(vs:List Value)(cs:List CR)(h5:StrN 5 vs)(hb:Bx 36 w g (flatS vs).toArray)(hn:N=vs.length)(hq:N=cs.length)(hN:N≤9223372036854775807)(hR:∀(i:Nat) (u:Value) (y:CR),vs[i]? =some u→cs[i]? =some y→CnR k w u y):CL k w (.slice (some ⟨g,0,Option.none⟩) N N) cs:=by
 have:=LS.of_hold (e:=36) (n:=5) (B:=0) (w:=w) (vs:=vs) (g:=g) (cap:=N) (rest:=[]) h5 (Nat.zero_le _) (by omega) hN (by rw[hn];simp) (by rw[List.append_nil];exact hb)
 rw[←hn]at this;exact OL.sl (R:=fun w u y=>CnR k w u y) ⟨vs,this,by omega,hR⟩ (by omega)
theorem bl_one{w:World}{g:Nat}{b:Bool}(hb:Bx 4 w g #[.bool b]):BL w (.slice (some ⟨g,0,none⟩) 1 1) [b]:=by
 refine⟨some ⟨g,0,none⟩,1,rfl,Nat.le_refl _,by omega,.inr ⟨g,0,rfl,fun i x hx=> ?_⟩⟩
 have hi:i=0:=by
  have:=(List.getElem?_eq_some_iff.1 hx).1
  simp at this
  exact this
 subst hi;simp only[List.getElem?_cons_zero,Option.some.injEq]at hx;subst hx;exact⟨_,by rw[Nat.add_zero,hb.cell];rfl,rfl⟩
theorem bl_nil(w:World):BL w (.slice none 0 0) []:=⟨none,0,rfl,Nat.le_refl _,by omega,.inl rfl⟩
def PP.oneB{S:Nat}(b:Bool):PP S:=⟨false,fun u w=>∃(g:Nat),S≤g∧u= .slice (some ⟨g,0,none⟩) 1 1∧Bx 4 w g #[.bool b],fun _ _ _ h hp=>(let ⟨g,h0,h1,h2⟩:=hp;⟨g,h0,h1,h2.ext h⟩),fun _ _ hg _ _ _ h hp=>(let ⟨g,h0,h1,h2⟩:=hp;⟨g,h0,h1,h2.chg h (by omega)⟩)⟩
def exA:CR:=(1,[(0,((2:Int):Rat))],((7:Int):Rat))
def exB:CR:=(2,[(0,((1:Int):Rat))],((1:Int):Rat))
def exQ:List Rat:=[((1:Int):Rat),(((-1:Int)):Rat)]
def ex7:Rat:=((7:Int):Rat) / ((2:Int):Rat)
theorem ex_ce:combE [exA,exB] exQ 1=0:=by decide+kernel
theorem ex_cv:combV [exA,exB] exQ 1=(1,[(0,((1:Int):Rat))],((6:Int):Rat)):=Prod.ext rfl (Prod.ext (by decide+kernel) (by decide+kernel))
theorem ex_re:roundE (1,[(0,((1:Int):Rat))],ex7) [true]=0:=by decide+kernel
theorem ex_rv:roundV (1,[(0,((1:Int):Rat))],ex7)=(1,[(0,((1:Int):Rat))],((3:Int):Rat)):=Prod.ext rfl (Prod.ext (by decide+kernel) (by decide+kernel))
theorem ex_dom:domC (1,[(0,((1:Int):Rat))],((3:Int):Rat)) (1,[(0,((1:Int):Rat))],((4:Int):Rat))=true:=by decide+kernel
theorem ex_sp1:splitC (1,[(0,((1:Int):Rat))],((3:Int):Rat)) (2,[(0,((1:Int):Rat))],((4:Int):Rat)) [true]=true:=by decide+kernel
theorem ex_sp2:splitC (1,[(0,((1:Int):Rat))],((3:Int):Rat)) (2,[(0,((1:Int):Rat))],((4:Int):Rat)) []=false:=by decide+kernel
theorem ex_sz1:szQ ((1:Int):Rat)≤1∧szQ ((2:Int):Rat)≤1∧szQ ((7:Int):Rat)≤1∧szQ (((-1:Int)):Rat)≤1∧szQ ((6:Int):Rat)≤1∧szQ ((3:Int):Rat)≤1∧szQ ((4:Int):Rat)≤1∧szQ ex7≤1:=by decide+kernel
theorem ex_szD:szD ((7:Int):Rat)≤5∧szD ((2:Int):Rat)≤5∧szD ex7≤5:=by decide+kernel
def TmF(B g:Nat)(q:Rat)(w:World):Prop:=∃b a1 n1 c1 a2 n2 c2,Bx 96 w g #[.int .i64 0,.bool b,.slice a1 n1 c1,.slice a2 n2 c2]∧FrQ B w (.agg #[.bool b,.slice a1 n1 c1,.slice a2 n2 c2]) q
theorem TmF.ext{B g:Nat}{q:Rat}{w w':World}(h:TmF B g q w)(he:Ext w w'):TmF B g q w':=by
 obtain⟨b,a1,n1,c1,a2,n2,c2,h1,h2⟩:=h;exact⟨b,a1,n1,c1,a2,n2,c2,h1.ext he,h2.ext he⟩
theorem TmF.chg{B g g':Nat}{q:Rat}{w w':World}(h:TmF B g q w)(he:Chg g' w w')(hne:g'≠g)(hg:g'<B):TmF B g q w':=by
 obtain⟨b,a1,n1,c1,a2,n2,c2,h1,h2⟩:=h;exact⟨b,a1,n1,c1,a2,n2,c2,h1.chg he (by omega),h2.chg he hg⟩
set_option maxHeartbeats 32000000 in
theorem speaksc_calls(w:World):Calls Tryz.prog 15 #[] w fun e w'=>e= .returned (.bool true)∧Ext w w':=by
 obtain⟨z1,z2,z7,zm,z6,z3,z4,zh⟩:=ex_sz1;obtain⟨d7,d2,dh⟩:=ex_szD
 have lim:(68719476736:Nat)≤LIM:=by rw[LIM_eq];omega
 go_enter Tryz.func15,Tryz.ntmps15
 go_wp2_with fail;refine(onec_calls 1 2 7 w (by omega) (by omega) (by omega) (by omega)).mono ?_;rintro e w2 ⟨v2,rfl,o2,e2⟩;have C2:=Lib.hid (o2.cnO z2 z7);obtain⟨gA,tbA,ta1A,tn1A,tc1A,ta2A,tn2A,tc2A,bA,a1A,n1A,c1A,a2A,n2A,c2A, -,rfl, -⟩:=o2;go_wp2_with fail;refine(onec_calls 2 1 1 w2 (by omega) (by omega) (by omega) (by omega)).mono ?_;rintro e w3 ⟨v3,rfl,o3,e3⟩;have C3:=Lib.hid (o3.cnO z1 z1);obtain⟨gB,tbB,ta1B,tn1B,tc1B,ta2B,tn2B,tc2B,bB,a1B,n1B,c1B,a2B,n2B,c2B, -,rfl, -⟩:=o3;obtain⟨w4,hw4,e4,bx4,s4⟩:=alloc1 w3 #[.int .i64 1,.slice (some ⟨gA,0,none⟩) 1 1,.bool bA,.slice a1A n1A c1A,.slice a2A n2A c2A,.int .i64 2,.slice (some ⟨gB,0,none⟩) 1 1,.bool bB,.slice a1B n1B c1B,.slice a2B n2B c2B] 36
 have L4:CL 1 w4 (.slice (some ⟨w3.heap.size,0,none⟩) 2 2) [exA,exB]:=by
  refine cl_new [.agg #[.int .i64 1,.slice (some ⟨gA,0,none⟩) 1 1,.bool bA,.slice a1A n1A c1A,.slice a2A n2A c2A],.agg #[.int .i64 2,.slice (some ⟨gB,0,none⟩) 1 1,.bool bB,.slice a1B n1B c1B,.slice a2B n2B c2B]] _ ?_ bx4 rfl rfl (by omega) ?_
  ·intro v hv;simp only[List.mem_cons,List.not_mem_nil,or_false]at hv
   rcases hv with rfl |rfl
   ·exact⟨_,rfl,rfl,all5 rfl rfl rfl rfl rfl⟩
   ·exact⟨_,rfl,rfl,all5 rfl rfl rfl rfl rfl⟩
  ·intro i u y hu hy
   match i,hu,hy with
   |0,hu,hy=>
    cases hu
    cases hy
    exact(C2.out.ext (e3.trans e4)).cnR (by omega)
   |1,hu,hy=>
    cases hu
    cases hy
    exact(C3.out.ext e4).cnR (by omega)
   |i+2,hu,hy=>simp at hu
 have HL4:=Lib.hid L4;have E4:=Lib.hid ((e2.trans e3).trans e4);clear L4 bx4 C2 C3 e2 e3 e4 s4;go_wp2_with fail;rw[←hw4];refine(wholec_calls 1 w4 (by omega) (by omega)).mono ?_;rintro e w5 ⟨v5,rfl,q5,e5⟩;obtain⟨b5,a5,l5,k5,a5',l5',k5',rfl,q5⟩:=q5.opn;have Q5:=Lib.hid q5;clear q5 hw4;go_wp2_with fail;refine(wholec_calls (-1) w5 (by omega) (by omega)).mono ?_;rintro e w6 ⟨v6,rfl,q6,e6⟩;obtain⟨b6,a6,l6,k6,a6',l6',k6',rfl,q6⟩:=q6.opn;obtain⟨w7,hw7,e7,bx7,s7⟩:=alloc1 w6 #[.bool b5,.slice a5 l5 k5,.slice a5' l5' k5',.bool b6,.slice a6 l6 k6,.slice a6' l6' k6'] 34
 have L7:QL 1 w7 (.slice (some ⟨w6.heap.size,0,none⟩) 2 2) exQ:=by
  refine ql_new [.agg #[.bool b5,.slice a5 l5 k5,.slice a5' l5' k5'],.agg #[.bool b6,.slice a6 l6 k6,.slice a6' l6' k6']] _ ?_ bx7 rfl rfl (by omega) ?_
  ·intro v hv;simp only[List.mem_cons,List.not_mem_nil,or_false]at hv
   rcases hv with rfl |rfl
   ·exact⟨_,rfl,rfl,all3 rfl rfl rfl⟩
   ·exact⟨_,rfl,rfl,all3 rfl rfl rfl⟩
  ·intro i u y hu hy
   match i,hu,hy with
   |0,hu,hy=>
    cases hu
    cases hy
    exact(Q5.out.ext (e6.trans e7)).isR z1 (by omega)
   |1,hu,hy=>
    cases hu
    cases hy
    exact(q6.ext e7).isR zm (by omega)
   |i+2,hu,hy=>simp at hu
 have HL7:=Lib.hid L7;have e57:=(e5.trans e6).trans e7;have HL47:=Lib.hid (HL4.out.ext e57);have E7:=Lib.hid (E4.out.trans e57);clear L7 bx7 q6 Q5 e5 e6 e7 s7 e57 HL4 E4;go_wp2_with fail;rw[←hw7]
 refine(combine_calls 1 1 1 2 7 7 _ _ [exA,exB] exQ 1 w7 HL47.out HL7.out (fun c hc=>by
  simp only[List.mem_cons,List.not_mem_nil,or_false]at hc
  rcases hc with rfl |rfl<;>exact Nat.le_refl _) (Nat.le_refl _) (by omega) (by omega) (by omega) (by omega) (by omega) (by omega)).mono ?_
 rintro e w8 ⟨v8,rfl,e8,hok, -⟩;have ho:=hok ex_ce;rw[ex_cv]at ho;rw[ex_ce];have E8:=Lib.hid (E7.out.trans e8);have C8:=Lib.hid (ho.cnE (k:=max 7 7) (by omega));obtain⟨a8,n8,p8,b8,a18,n18,c18,a28,n28,c28,rfl, -⟩:=ho;obtain⟨w9,hw9,e9,B9,s9⟩:=alloc1 w8 #[.int .i64 1,.slice a8 n8 p8,.bool b8,.slice a18 n18 c18,.slice a28 n28 c28] 36;clear hok hw7 HL7 HL47 E7;go_wp2_with fail;rw[←hw9];clear hw9;refine(onec_calls 1 2 7 w9 (by omega) (by omega) (by omega) (by omega)).mono ?_;rintro e w10 ⟨v10,rfl,o10,e10⟩;obtain⟨gT,tb,ta1,tn1,tc1,ta2,tn2,tc2,bT,a1T,n1T,c1T,a2T,n2T,c2T,hgT,rfl,BT10, -, -⟩:=o10;obtain⟨w11,hw11,e11,B11,s11⟩:=alloc1 w10 #[.int .i64 1,.slice (some ⟨gT,0,none⟩) 1 1,.bool bT,.slice a1T n1T c1T,.slice a2T n2T c2T] 36;have BT11:=BT10.ext e11;have P11:=B9.ext (e10.trans e11);have E11:=Lib.hid ((E8.out.trans e9).trans (e10.trans e11));have E8b:=Lib.hid (e9.trans (e10.trans e11));have hlt:=BT10.lt
 have hs89:w8.heap.size<w9.heap.size:=by omega
 have hsw:=E8.out.size;have hs10:=e10.size;clear e8 e9 e10 BT10 B9 E8;go_wp2_with fail;rw[←hw11];clear hw11;refine wp_region_putg [⟨5,gT,TmF w11.heap.size gT ((1:Int):Rat),fun _ _ he h=>h.ext he,fun _ hne hg _ _ he h=>h.chg he hne hg⟩] [PP.val (.pointer (some ⟨w10.heap.size,1,none⟩)),PP.val (.slice (some ⟨gT,0,none⟩) 1 1),PP.frQ ((1:Int):Rat),PP.val (.pointer (some ⟨gT,0,none⟩)),PP.val (.pointer (some ⟨gT,1,none⟩)),PP.any] [] [5,4,3,2,1,0]
  (by kernel_rfl) (by kernel_rfl) (fun f=>(by simp only[fillR,fillL,List.setIfInBounds_toArray,List.set_cons_succ,List.set_cons_zero,Nat.reduceAdd];rfl)) ?_ ?_ ?_ ?_ ?_
 ·intro x hx;simp only[List.mem_singleton]at hx;subst hx;show gT<w11.heap.size;omega
 ·intro x hx;simp only[List.mem_singleton]at hx;subst hx;rfl
 ·intro x hx y hy h;simp only[List.mem_singleton]at hx hy;subst hx hy;exact absurd rfl h
 ·refine⟨?_,?_,?_,?_,?_,?_,trivial⟩
  ·intro f wa hG hp hl;simp only[OpGoal];go_simp;exact⟨_,rfl,Ext.refl _,rfl⟩
  ·intro f wa hG hp hl;have hE:Ext w11 wa:=hG
   have q17:f 0= .pointer (some ⟨w10.heap.size,1,none⟩):=tellG hp 0 0 rfl rfl (fun h=>by cases h)
   have hcell:=(B11.ext hE).cell 1;simp only[OpGoal];go_simp;exact⟨_,rfl,Ext.refl _,rfl⟩
  ·intro f wa hG hp hl;have hE:Ext w11 wa:=hG;have hS:=hE.size;change OpGoal _ _ _ f wa Ext _;refine oC #[.int .i64 1] Tryz.func41 rfl rfl ?_;refine(wholec_calls 1 _ (by omega) (by omega)).mono ?_;rintro e w' ⟨v',rfl,h1,h2⟩;exact⟨v',rfl,h2,h1.mono hS⟩
  ·intro f wa hG hp hl
   have q18:f 1= .slice (some ⟨gT,0,none⟩) 1 1:=tellG hp 0 1 rfl rfl (fun h=>by cases h)
   simp only[OpGoal];go_simp;exact⟨_,rfl,Ext.refl _,rfl⟩
  ·intro f wa hG hp hl
   have q20:f 3= .pointer (some ⟨gT,0,none⟩):=tellG hp 0 3 rfl rfl (fun h=>by cases h)
   simp only[OpGoal];go_simp;exact⟨_,rfl,Ext.refl _,rfl⟩
  ·intro f wa hG hp hl;have hE:Ext w11 wa:=hG;have hS:=hE.size
   have q21:f 4= .pointer (some ⟨gT,1,none⟩):=tellG hp 0 4 rfl rfl (fun h=>by cases h)
   have q19:=tellG hp 1 2 rfl rfl (fun _=>hE);intro hg0;change OpGoal _ _ _ f wa (Chg _) _;obtain⟨b',ad1,m1,x1,ad2,m2,x2,hv,hfq⟩:=FrQ.opn q19;exact og_storeAt (P:=Tryz.prog) gT 1 96 _ [.int .i64 0,.bool tb,.slice ta1 tn1 tc1,.slice ta2 tn2 tc2] #[.bool b',.slice ad1 m1 x1,.slice ad2 m2 x2] _ _ rfl rfl q21 hv (by kernel_rfl) (show Bx 96 wa _ _ from hg0.trans BT11) (show 1+3≤4 by decide) (all3 rfl rfl rfl) (fun w' hc hb u=>⟨b',ad1,m1,x1,ad2,m2,x2,hb,hfq.chg hc (by omega)⟩)
 ·intro f w12 hG hp;have hz0:=endGS hp 5 (by decide);clear hp;have hC:Chg gT w11 w12:=ChgS.one hG;obtain⟨bt,at1,mt1,xt1,at2,mt2,xt2,BT12,qt12⟩:=hz0;have X12:=Lib.hid (E11.out.step hC (by omega));have P12:=P11.chg hC (by omega);have B12:=B11.chg hC (by omega);have hs12:=hC.size;have QT12:=Lib.hid qt12;have E8c:=E8b.out.step hC (show w8.heap.size≤gT by omega);have HE8:=Lib.hid E8c;have hgl:gT<w12.heap.size:=BT12.lt;clear qt12 hC hG BT11 P11 B11 E11 E8b E8c e11;go_wp2_with fail;refine(rqsmall3_calls 7 w12 (by omega) (by omega)).mono ?_;rintro e w13 ⟨v13,rfl,q13,e13⟩;have Q13:=Lib.hid q13;clear q13;go_wp2_with fail;refine(rqsmall3_calls 2 w13 (by omega) (by omega)).mono ?_;rintro e w14 ⟨v14,rfl,q14,e14⟩;have Q14:=Lib.hid q14;clear q14;go_wp2_with fail;refine(rqdiv3_calls _ _ ((7:Int):Rat) ((2:Int):Rat) 5 5 w14 (Q13.out.cq.ext e14) Q14.out.cq (by decide+kernel) d7 d2 (by omega)).mono ?_;rintro e w15 ⟨v15,rfl,q15,e15⟩;have Q15:=Lib.hid (show FrQd w14.heap.size w15 v15 ex7 from q15);clear q15;go_wp2_with fail;refine(rqto3_calls _ ex7 w15 Q15.out.cq (by omega)).mono ?_;rintro e w16 ⟨v16,rfl,q16,e16⟩;obtain⟨b16,a16,l16,k16,a16',l16',k16',rfl,q16⟩:=q16.opn;have e1216:=((e13.trans e14).trans e15).trans e16;have hb:=B12.ext e1216;have P16:=P12.ext e1216;have BT16:=BT12.ext e1216;have QT16:=Lib.hid (QT12.out.ext e1216);have HE16:=Lib.hid (HE8.out.trans e1216);have X16:=Lib.hid (X12.out.trans e1216)
  have Q16:=Lib.hid (q16.mono (show w12.heap.size≤_ by have:=e13.size;have:=e14.size;have:=e15.size;omega));have hs16:=e1216.size;have hb0:=hb.cell 0;have hf0:=hb.free 0;have hb1:=hb.cell 1;have hf1:=hb.free 1;have hb2:=hb.cell 2;have hf2:=hb.free 2;have hb3:=hb.cell 3;have hf3:=hb.free 3;have hb4:=hb.cell 4;have hf4:=hb.free 4;clear q16 e13 e14 e15 e16 e1216 B12 P12 BT12 QT12 HE8 X12 Q13 Q14 Q15
  go_upto_region 5 with(fail)
  obtain⟨w17,hw17,c17,B17⟩:=put3 hb (.bool b16) (.slice a16 l16 k16) (.slice a16' l16' k16');rw[←hw17];have hw10:=hb.lt;have X17:=Lib.hid (X16.out.step c17 (by omega));have P17:=P16.chg c17 (by omega);have BT17:=BT16.chg c17 (by omega);have QT17:=Lib.hid (FrQ.chgB QT16.out c17 hb (by decide));have Q17:=Lib.hid (FrQ.chgB Q16.out c17 hb (by decide));have hs17:=c17.size;have C17:=Lib.hid (C8.out.ext (HE16.out.step c17 (show w8.heap.size≤w10.heap.size by omega)));have H17:=Lib.hid (CnR.mk' (k:=1) (s:=1) (to_one (Nat.zero_le gT) BT17 (QT17.out.mono (Nat.zero_le _)) z1 |>.tl (by omega)) (Q17.out.isR zh (by omega)));clear hw17 hb hb0 hb1 hb2 hb3 hb4 hf0 hf1 hf2 hf3 hf4 c17 X16 P16 BT16 QT16 Q16 HE16 C8 BT17 QT17 Q17;have hb0:=B17.cell 0;have hb1:=B17.cell 1;have hb2:=B17.cell 2;have hb3:=B17.cell 3;have hb4:=B17.cell 4;obtain⟨w18,hw18,e18,BB18,s18⟩:=alloc1 w17 #[.bool true] 4;go_wp2_with fail;rw[←hw18];refine(cround_calls 1 2 _ _ (1,[(0,((1:Int):Rat))],ex7) [true] w18 (H17.out.ext e18) (bl_one BB18) (by decide) (by decide) (by decide) (by decide) (by decide)).mono ?_;rintro e w19 ⟨v19,rfl,e19,hok, -⟩;have ho:=hok ex_re;rw[ex_rv]at ho;rw[ex_re];have C19:=Lib.hid (ho.cnE (k:=2+1) (by omega));obtain⟨a9,n9,p9,b9,a19,n19,c19,a29,n29,c29,rfl, -⟩:=ho;obtain⟨w20,hw20,e20,B20,s20⟩:=alloc1 w19 #[.int .i64 1,.slice a9 n9 p9,.bool b9,.slice a19 n19 c19,.slice a29 n29 c29] 36;have P20:=((P17.ext e18).ext e19).ext e20
  have X20:=Lib.hid (((X17.out.trans e18).trans e19).trans e20);have CA:=Lib.hid (((C17.out.ext e18).ext e19).ext e20);have CB:=Lib.hid (C19.out.ext e20);have zz:=ex_sz1;clear hok hb0 hb1 hb2 hb3 hb4 hw18 BB18 e18 e19 e20 P17 B17 X17 C17 C19 H17;go_wp2_with fail;rw[←hw20];clear hw20;refine wpQ [PP.val (.int .i64 0),PP.val (.bool true),PP.val (.bool true),PP.val (.agg #[.int .i64 1,.slice a8 n8 p8,.bool b8,.slice a18 n18 c18,.slice a28 n28 c28]),PP.onP 1 ((1:Int):Rat) ((6:Int):Rat),PP.val (.bool true),PP.val (.bool true),PP.val (.bool true),PP.val (.int .i64 0),PP.val (.bool true),PP.val (.bool true),PP.val (.bool true),PP.val (.agg #[.int .i64 1,.slice a9 n9 p9,.bool b9,.slice a19 n19 c19,.slice a29 n29 c29]),PP.onP 1 ((1:Int):Rat) ((3:Int):Rat),PP.val (.bool true),PP.val (.bool true),PP.val (.bool true),PP.onP 1 ((1:Int):Rat) ((3:Int):Rat),PP.onP 1 ((1:Int):Rat) ((4:Int):Rat),PP.val (.bool true),PP.val (.bool true),PP.val (.bool true),PP.onP 1 ((1:Int):Rat) ((3:Int):Rat),PP.onP 2 ((1:Int):Rat) ((4:Int):Rat),PP.oneB true,PP.val (.bool true),PP.val (.bool true),PP.val (.bool true),PP.onP 1 ((1:Int):Rat) ((3:Int):Rat),PP.onP 2 ((1:Int):Rat) ((4:Int):Rat),PP.val (.bool false),PP.val (.bool true),PP.val (.bool true),PP.val (.bool true)] [] [0,1,2,3,4,5,6,7,8,9,10,11,12,13,14,15,16,17,18,19,20,21,22,23,24,25,26,27,28,29,30,31,32,33] ?_ ?_
  ·refine⟨?_,?_,?_,?_,?_,?_,?_,?_,?_,?_,?_,?_,?_,?_,?_,?_,?_,?_,?_,?_,?_,?_,?_,?_,?_,?_,?_,?_,?_,?_,?_,?_,?_,?_,trivial⟩
   ·intro f wa hG hp hl;simp only[OpGoal];go_simp;exact⟨_,rfl,Ext.refl _,rfl⟩
   ·intro f wa hG hp hl;have q33:=tE hp 0 0 rfl rfl rfl;simp only[OpGoal];go_simp;exact⟨_,rfl,Ext.refl _,rfl⟩
   ·intro f wa hG hp hl;have q34:=tE hp 0 1 rfl rfl rfl;simp only[OpGoal];go_simp;exact⟨_,rfl,Ext.refl _,rfl⟩
   ·intro f wa hG hp hl;have hE:Ext w20 wa:=hG;have qg:=tE hp 0 2 rfl rfl rfl;change OpGoal _ _ _ f wa Ext _;refine og_guard (j:=2) (want:=true) rfl qg ?_;change OpGoal _ _ _ f wa Ext _;exact og_load (P:=Tryz.prog) _ _ w8.heap.size _ _ _ rfl rfl rfl (P20.ext hE) Tryz.underlying36 rfl (by kernel_rfl) rfl
   ·intro f wa hG hp hl;have hE:Ext w20 wa:=hG;have hS:=hE.size;have qg:=tE hp 0 2 rfl rfl rfl;change OpGoal _ _ _ f wa Ext _;refine og_guard (j:=2) (want:=true) rfl qg ?_;change OpGoal _ _ _ f wa Ext _;refine oC #[.int .i64 1,.int .i64 1,.int .i64 6] Tryz.func71 rfl rfl ?_;refine(onec_calls 1 1 6 _ (by omega) (by omega) (by omega) (by omega)).mono ?_;rintro e w' ⟨v',rfl,h1,h2⟩;exact⟨v',rfl,h2,h1.mono hS⟩
   ·intro f wa hG hp hl;have hE:Ext w20 wa:=hG;have hS:=hE.size;have q36:=tE hp 0 3 rfl rfl rfl;have q37:=tellV hp 1 4 rfl rfl (fun _=>hE);have qg:=tE hp 3 2 rfl rfl rfl;change OpGoal _ _ _ f wa Ext _;refine og_guard (j:=2) (want:=true) rfl qg ?_;change OpGoal _ _ _ f wa Ext _;refine oC #[f 3,f 4] Tryz.func23 rfl rfl ?_;rw[q36];refine(sameCons_true _ _ (fmC (1,[(0,((1:Int):Rat))],((6:Int):Rat))) _ (CA.out.ext hE) ((q37.cnO z1 z6).cnE (by omega))).mono ?_;rintro e w' ⟨rfl,h2⟩;exact⟨_,rfl,h2,rfl⟩
   ·intro f wa hG hp hl;have q35:=tE hp 0 2 rfl rfl rfl;have q38:=tE hp 1 5 rfl rfl rfl;simp only[OpGoal];go_simp;exact⟨_,rfl,Ext.refl _,rfl⟩
   ·intro f wa hG hp hl;have q39:=tE hp 0 6 rfl rfl rfl;simp only[OpGoal];go_simp;exact⟨_,rfl,Ext.refl _,rfl⟩
   ·intro f wa hG hp hl;have qg:=tE hp 0 7 rfl rfl rfl;change OpGoal _ _ _ f wa Ext _;refine og_guard (j:=7) (want:=true) rfl qg ?_;simp only[OpGoal];go_simp;exact⟨_,rfl,Ext.refl _,rfl⟩
   ·intro f wa hG hp hl;have q41:=tE hp 0 8 rfl rfl rfl;have qg:=tE hp 1 7 rfl rfl rfl;change OpGoal _ _ _ f wa Ext _;refine og_guard (j:=7) (want:=true) rfl qg ?_;simp only[OpGoal];go_simp;exact⟨_,rfl,Ext.refl _,rfl⟩
   ·intro f wa hG hp hl;have q40:=tE hp 0 7 rfl rfl rfl;have q42:=tE hp 1 9 rfl rfl rfl;simp only[OpGoal];go_simp;exact⟨_,rfl,Ext.refl _,rfl⟩
   ·intro f wa hG hp hl;have q43:=tE hp 0 10 rfl rfl rfl;simp only[OpGoal];go_simp;exact⟨_,rfl,Ext.refl _,rfl⟩
   ·intro f wa hG hp hl;have hE:Ext w20 wa:=hG;have qg:=tE hp 0 11 rfl rfl rfl;change OpGoal _ _ _ f wa Ext _;refine og_guard (j:=11) (want:=true) rfl qg ?_;change OpGoal _ _ _ f wa Ext _;exact og_load (P:=Tryz.prog) _ _ w19.heap.size _ _ _ rfl rfl rfl (B20.ext hE) Tryz.underlying36 rfl (by kernel_rfl) rfl
   ·intro f wa hG hp hl;have hE:Ext w20 wa:=hG;have hS:=hE.size;have qg:=tE hp 0 11 rfl rfl rfl;change OpGoal _ _ _ f wa Ext _;refine og_guard (j:=11) (want:=true) rfl qg ?_;change OpGoal _ _ _ f wa Ext _;refine oC #[.int .i64 1,.int .i64 1,.int .i64 3] Tryz.func71 rfl rfl ?_;refine(onec_calls 1 1 3 _ (by omega) (by omega) (by omega) (by omega)).mono ?_;rintro e w' ⟨v',rfl,h1,h2⟩;exact⟨v',rfl,h2,h1.mono hS⟩
   ·intro f wa hG hp hl;have hE:Ext w20 wa:=hG;have hS:=hE.size;have q45:=tE hp 0 12 rfl rfl rfl;have q46:=tellV hp 1 13 rfl rfl (fun _=>hE);have qg:=tE hp 3 11 rfl rfl rfl;change OpGoal _ _ _ f wa Ext _;refine og_guard (j:=11) (want:=true) rfl qg ?_;change OpGoal _ _ _ f wa Ext _;refine oC #[f 12,f 13] Tryz.func23 rfl rfl ?_;rw[q45];refine(sameCons_true _ _ (fmC (1,[(0,((1:Int):Rat))],((3:Int):Rat))) _ (CB.out.ext hE) ((q46.cnO z1 z3).cnE (by omega))).mono ?_;rintro e w' ⟨rfl,h2⟩;exact⟨_,rfl,h2,rfl⟩
   ·intro f wa hG hp hl;have q44:=tE hp 0 11 rfl rfl rfl;have q47:=tE hp 1 14 rfl rfl rfl;simp only[OpGoal];go_simp;exact⟨_,rfl,Ext.refl _,rfl⟩
   ·intro f wa hG hp hl;have q48:=tE hp 0 15 rfl rfl rfl;simp only[OpGoal];go_simp;exact⟨_,rfl,Ext.refl _,rfl⟩
   ·intro f wa hG hp hl;have hE:Ext w20 wa:=hG;have hS:=hE.size;have qg:=tE hp 0 16 rfl rfl rfl;change OpGoal _ _ _ f wa Ext _;refine og_guard (j:=16) (want:=true) rfl qg ?_;change OpGoal _ _ _ f wa Ext _;refine oC #[.int .i64 1,.int .i64 1,.int .i64 3] Tryz.func71 rfl rfl ?_;refine(onec_calls 1 1 3 _ (by omega) (by omega) (by omega) (by omega)).mono ?_;rintro e w' ⟨v',rfl,h1,h2⟩;exact⟨v',rfl,h2,h1.mono hS⟩
   ·intro f wa hG hp hl;have hE:Ext w20 wa:=hG;have hS:=hE.size;have qg:=tE hp 1 16 rfl rfl rfl;change OpGoal _ _ _ f wa Ext _;refine og_guard (j:=16) (want:=true) rfl qg ?_;change OpGoal _ _ _ f wa Ext _;refine oC #[.int .i64 1,.int .i64 1,.int .i64 4] Tryz.func71 rfl rfl ?_;refine(onec_calls 1 1 4 _ (by omega) (by omega) (by omega) (by omega)).mono ?_;rintro e w' ⟨v',rfl,h1,h2⟩;exact⟨v',rfl,h2,h1.mono hS⟩
   ·intro f wa hG hp hl;have hE:Ext w20 wa:=hG;have hS:=hE.size;have q50:=tellV hp 0 17 rfl rfl (fun _=>hE);have q51:=tellV hp 1 18 rfl rfl (fun _=>hE);have qg:=tE hp 3 16 rfl rfl rfl;change OpGoal _ _ _ f wa Ext _;refine og_guard (j:=16) (want:=true) rfl qg ?_;change OpGoal _ _ _ f wa Ext _;refine oC #[f 17,f 18] Tryz.func28 rfl rfl ?_;refine(dominates_calls 1 1 _ _ (1,[(0,((1:Int):Rat))],((3:Int):Rat)) (1,[(0,((1:Int):Rat))],((4:Int):Rat)) _ ((OnP.cnO (k:=1) q50 z1 z3).cnR (by omega)) ((OnP.cnO (k:=1) q51 z1 z4).cnR (by omega)) (by decide) (by decide) (by decide) (by decide)).mono ?_;rintro e w' ⟨rfl,h2⟩
    exact⟨_,rfl,h2,by rw[ex_dom]<;>rfl⟩
   ·intro f wa hG hp hl;have q49:=tE hp 0 16 rfl rfl rfl;have q52:=tE hp 1 19 rfl rfl rfl;simp only[OpGoal];go_simp;exact⟨_,rfl,Ext.refl _,rfl⟩
   ·intro f wa hG hp hl;have q53:=tE hp 0 20 rfl rfl rfl;simp only[OpGoal];go_simp;exact⟨_,rfl,Ext.refl _,rfl⟩
   ·intro f wa hG hp hl;have hE:Ext w20 wa:=hG;have hS:=hE.size;have qg:=tE hp 0 21 rfl rfl rfl;change OpGoal _ _ _ f wa Ext _;refine og_guard (j:=21) (want:=true) rfl qg ?_;change OpGoal _ _ _ f wa Ext _;refine oC #[.int .i64 1,.int .i64 1,.int .i64 3] Tryz.func71 rfl rfl ?_;refine(onec_calls 1 1 3 _ (by omega) (by omega) (by omega) (by omega)).mono ?_;rintro e w' ⟨v',rfl,h1,h2⟩;exact⟨v',rfl,h2,h1.mono hS⟩
   ·intro f wa hG hp hl;have hE:Ext w20 wa:=hG;have hS:=hE.size;have qg:=tE hp 1 21 rfl rfl rfl;change OpGoal _ _ _ f wa Ext _;refine og_guard (j:=21) (want:=true) rfl qg ?_;change OpGoal _ _ _ f wa Ext _;refine oC #[.int .i64 2,.int .i64 1,.int .i64 4] Tryz.func71 rfl rfl ?_;refine(onec_calls 2 1 4 _ (by omega) (by omega) (by omega) (by omega)).mono ?_;rintro e w' ⟨v',rfl,h1,h2⟩;exact⟨v',rfl,h2,h1.mono hS⟩
   ·intro f wa hG hp hl;have hE:Ext w20 wa:=hG;have hS:=hE.size;have qg:=tE hp 0 21 rfl rfl rfl;change OpGoal _ _ _ f wa Ext _;refine og_guard (j:=21) (want:=true) rfl qg ?_;change OpGoal _ _ _ f wa Ext _;exact og_buildSlice (P:=Tryz.prog) 48 4 1 1 _ [.bool true] rfl rfl Tryz.underlying48 (by kernel_rfl) (by kernel_rfl) rfl rfl (by omega) (by omega) (by omega) (by intro v hv;rw[List.mem_singleton]at hv;subst hv;rfl) (fun w' he hb=>⟨_,hS,rfl,hb⟩)
   ·intro f wa hG hp hl;have hE:Ext w20 wa:=hG;have hS:=hE.size;have q55:=tellV hp 0 22 rfl rfl (fun _=>hE);have q56:=tellV hp 1 23 rfl rfl (fun _=>hE);have q57:=tellV hp 2 24 rfl rfl (fun _=>hE);have qg:=tE hp 4 21 rfl rfl rfl;change OpGoal _ _ _ f wa Ext _;refine og_guard (j:=21) (want:=true) rfl qg ?_;change OpGoal _ _ _ f wa Ext _;refine oC #[f 22,f 23,f 24] Tryz.func30 rfl rfl ?_;refine(split_calls 1 1 _ _ _ (1,[(0,((1:Int):Rat))],((3:Int):Rat)) (2,[(0,((1:Int):Rat))],((4:Int):Rat)) [true] _ ((OnP.cnO (k:=1) q55 z1 z3).cnR (by omega)) ((OnP.cnO (k:=1) q56 z1 z4).cnR (by omega)) (by obtain⟨gq, -,hvq,hbq⟩:=q57;rw[hvq];exact bl_one hbq) (by decide) (by decide) (by decide) (by decide)).mono ?_;rintro e w' ⟨rfl,h2⟩
    exact⟨_,rfl,h2,by rw[ex_sp1]<;>rfl⟩
   ·intro f wa hG hp hl;have q54:=tE hp 0 21 rfl rfl rfl;have q58:=tE hp 1 25 rfl rfl rfl;simp only[OpGoal];go_simp;exact⟨_,rfl,Ext.refl _,rfl⟩
   ·intro f wa hG hp hl;have q59:=tE hp 0 26 rfl rfl rfl;simp only[OpGoal];go_simp;exact⟨_,rfl,Ext.refl _,rfl⟩
   ·intro f wa hG hp hl;have hE:Ext w20 wa:=hG;have hS:=hE.size;have qg:=tE hp 0 27 rfl rfl rfl;change OpGoal _ _ _ f wa Ext _;refine og_guard (j:=27) (want:=true) rfl qg ?_;change OpGoal _ _ _ f wa Ext _;refine oC #[.int .i64 1,.int .i64 1,.int .i64 3] Tryz.func71 rfl rfl ?_;refine(onec_calls 1 1 3 _ (by omega) (by omega) (by omega) (by omega)).mono ?_;rintro e w' ⟨v',rfl,h1,h2⟩;exact⟨v',rfl,h2,h1.mono hS⟩
   ·intro f wa hG hp hl;have hE:Ext w20 wa:=hG;have hS:=hE.size;have qg:=tE hp 1 27 rfl rfl rfl;change OpGoal _ _ _ f wa Ext _;refine og_guard (j:=27) (want:=true) rfl qg ?_;change OpGoal _ _ _ f wa Ext _;refine oC #[.int .i64 2,.int .i64 1,.int .i64 4] Tryz.func71 rfl rfl ?_;refine(onec_calls 2 1 4 _ (by omega) (by omega) (by omega) (by omega)).mono ?_;rintro e w' ⟨v',rfl,h1,h2⟩;exact⟨v',rfl,h2,h1.mono hS⟩
   ·intro f wa hG hp hl;have hE:Ext w20 wa:=hG;have hS:=hE.size;have q61:=tellV hp 0 28 rfl rfl (fun _=>hE);have q62:=tellV hp 1 29 rfl rfl (fun _=>hE);have qg:=tE hp 3 27 rfl rfl rfl;change OpGoal _ _ _ f wa Ext _;refine og_guard (j:=27) (want:=true) rfl qg ?_;change OpGoal _ _ _ f wa Ext _;refine oC #[f 28,f 29,.slice none 0 0] Tryz.func30 rfl rfl ?_;refine(split_calls 1 1 _ _ _ (1,[(0,((1:Int):Rat))],((3:Int):Rat)) (2,[(0,((1:Int):Rat))],((4:Int):Rat)) [] _ ((OnP.cnO (k:=1) q61 z1 z3).cnR (by omega)) ((OnP.cnO (k:=1) q62 z1 z4).cnR (by omega)) (bl_nil _) (by decide) (by decide) (by decide) (by decide)).mono ?_;rintro e w' ⟨rfl,h2⟩
    exact⟨_,rfl,h2,by rw[ex_sp2]<;>rfl⟩
   ·intro f wa hG hp hl;have q63:=tE hp 0 30 rfl rfl rfl;have qg:=tE hp 1 27 rfl rfl rfl;change OpGoal _ _ _ f wa Ext _;refine og_guard (j:=27) (want:=true) rfl qg ?_;simp only[OpGoal];go_simp;exact⟨_,rfl,Ext.refl _,rfl⟩
   ·intro f wa hG hp hl;have q60:=tE hp 0 27 rfl rfl rfl;have q64:=tE hp 1 31 rfl rfl rfl;simp only[OpGoal];go_simp;exact⟨_,rfl,Ext.refl _,rfl⟩
   ·intro f wa hG hp hl;have q65:=tE hp 0 32 rfl rfl rfl;simp only[OpGoal];go_simp;exact⟨_,rfl,Ext.refl _,rfl⟩
  ·intro f w21 hG hp;have hE:Ext w20 w21:=ChgS.nil hG
   have q0:f 33= .bool true:=endV hp 33 (by decide) rfl (fun h=>by cases h)
   try simp only[q0]
   clear hp;have X:=X20.out.trans hE;clear hE;go_wp2;go_ret;exact⟨rfl,X⟩
open Go.ChangeShapes Go.WideShapes Go.ChangeAt
theorem cellsCn:Tryz.prog.cellsOf 36=5:=by kernel_rfl
section
variable {H:Type} {enc:TypeId×Value→H} {w:World} {base:Nat} {spare:Nat→Bool} {held:Bool}
theorem trod_len{fuel:Nat}{t:TypeId}{cs:List Value}{x:DataW H×List MemPlace}(h:DataW.trod enc Tryz.prog w base spare held fuel t cs=some x)(ht:t=29):∃v,cs=[v]∧∃a n c,v= .slice a n c:=by
 subst ht
 rcases Go.Deep.open_slice Tryz.underlying29 h with⟨rfl,rfl⟩ |⟨a,len,cap,m,k,D,Pl,rfl,hb,hl,hm,hmm,rfl,hx⟩
 ·exact⟨_,rfl,_,_,_,rfl⟩
 ·exact⟨_,rfl,_,_,_,rfl⟩
theorem open_consC{fuel:Nat}{cs:List Value}{x:DataW H×List MemPlace}(B:Nat)(hb:B≤4611686018427387903)(hB:∀n∈x.1.weights Tryz.prog 36,n≤B)(h:DataW.trod enc Tryz.prog w base spare held fuel 36 cs=some x):
  ∃s v0 v1 v2 v3 c,cs=[.int .i64 s,v0,v1,v2,v3]∧CnE w (.agg #[.int .i64 s,v0,v1,v2,v3]) c∧c.1=s∧(Lit.int .i64 s).wf=true:=by
 obtain⟨y0,y1,y2,n,hx,hl,h0,h1,h2⟩:=Go.Deep.trod_struct3 Tryz.underlying36 h;rw[cellsCn]at hl
 obtain⟨c0,c1,c2,c3,c4,rfl⟩:∃c0 c1 c2 c3 c4,cs=[c0,c1,c2,c3,c4]:=by
  rcases cs with _ |⟨c0,_ |⟨c1,_ |⟨c2,_ |⟨c3,_ |⟨c4,_ |⟨c5,cs⟩⟩⟩⟩⟩⟩<;>simp at hl
  exact⟨_,_,_,_,_,rfl⟩
 obtain⟨s,hs,ws, -⟩:=open_int1 h0;obtain⟨v,hv,a,m,cp,rfl⟩:=trod_len h1 rfl
 have hB1:∀n∈y1.1.weights Tryz.prog 29,n≤B:=fun n hn=>hB n (by
  rw[hx];simp only[DataW.weights,Tryz.underlying36]
  first
   |exact List.mem_append_right _ (List.mem_append_left _ hn)
   | (simp only[List.mem_append];exact .inr (.inl hn)))
 obtain⟨v',l,hv',hT⟩:=open_termsF B hb hB1 h1;obtain⟨b,p,q,xs,ys,hr,hL,hd,hL2,hd2,hB2,hw⟩:=open_ratC h2
 have hh:=hB2 B (fun n hn=>hB n (by
  rw[hx];simp only[DataW.weights,Tryz.underlying36]
  first
   |exact List.mem_append_right _ (List.mem_append_right _ (List.mem_append_left _ hn))
   | (simp only[List.mem_append];exact .inr (.inr (.inl hn)))))
 have e0:List.take (Tryz.prog.cellsOf 3) (List.drop 0 [c0,c1,c2,c3,c4])=[c0]:=by rw[cellsInt];rfl
 have e1:List.take (Tryz.prog.cellsOf 29) (List.drop 1 [c0,c1,c2,c3,c4])=[c1]:=by rw[cellsTs];rfl
 have e2:List.take (Tryz.prog.cellsOf 34) (List.drop 2 [c0,c1,c2,c3,c4])=[c2,c3,c4]:=by rw[cellsQ];rfl
 have h0': [c0]=[.int .i64 s]:=e0▸hs
 have h1': [c1]=[.slice a m cp]:=e1▸hv
 have h1'': [c1]=[v']:=e1▸hv'
 have h2': [c2,c3,c4]=[.bool b,p,q]:=e2▸hr
 simp only[List.cons.injEq,and_true]at h0' h1' h1'' h2';obtain⟨rfl,rfl,rfl⟩:=h2';subst h0' h1';subst h1'';have hE:RawE w (.agg #[.bool b,c3,c4]) (b,xs,ys):=⟨⟨c3,c4,rfl,hL,hL2⟩,hd,hd2,by show xs.length+ys.length≤_;omega⟩;have hL':=hL;have hL2':=hL2;obtain⟨a1,k1,rfl, -⟩:=hL';obtain⟨a2,k2,rfl, -⟩:=hL2';exact⟨s,_,_,_,_,(s,l,(b,xs,ys)),rfl,⟨_,_,_,_,_,_,_,_,_,_,rfl,hT,hE⟩,rfl,ws⟩
theorem open_consS{v:Value}{d:DataW H}{p:List MemPlace}{W0:World}{b0:Nat}(hv:Value.okWide Tryz.prog W0 .any b0 36 v)(h:DataW.Trod enc Tryz.prog w base spare held 36 v d p)(B:Nat)(hb:B≤4611686018427387903)(hB:∀n∈d.weights Tryz.prog 36,n≤B):
  ∃c,CnE w v c∧(Lit.int .i64 c.1).wf=true:=by
 obtain⟨arr,rfl,_⟩:=okWide_struct Tryz.underlying36 hv;obtain⟨fuel,hf⟩:=h;obtain⟨s,v0,v1,v2,v3,c,hcs,hE,hs,hw⟩:=open_consC B hb hB hf
 have he:arr=#[.int .i64 s,v0,v1,v2,v3]:=by
  have:arr.toList=[.int .i64 s,v0,v1,v2,v3]:=by simpa[Value.cells]using hcs
  rw[←Array.toArray_toList (xs:=arr),this]
 subst he;exact⟨c,hE,by rw[hs];exact hw⟩
end
end Go.Proofs.YtokfaggcojokgaaGreat
