/-
 Constraints: the documents' help: are constraints great, the same, copied, written over (cutwaterref11.Great, cutwaterref10.SameCons, CopyCons, Copy, Same, Spoil).
-/
import Derived.Test.YtokfaggcojokgaaGreatCnaZ
import Derived.Test.YtokfaggcojokgaaGreatCmaZ
import Derived.Test.YtokfaggcojokgaaGreatCngZ
namespace Go.Proofs.YtokfaggcojokgaaGreat
set_option maxRecDepth 100000
set_option maxHeartbeats 1000000
open Go.RowKit
set_option linter.unusedVariables false
set_option linter.unusedSimpArgs false
def weightC:List CE→Nat
 | []=>0
 |c::l=>(weightE (c.2.1.map Prod.snd)+weightE [c.2.2])+weightC l
theorem weightC_snoc(l:List CE)(c:CE):weightC (l++ [c])=weightC l+weightE (c.2.1.map Prod.snd)+weightE [c.2.2]:=by
 induction l with
 |nil=>simp [weightC]
 |cons x l ih=>simp only[List.cons_append,weightC,ih];omega
def badC(c:CE):Bool:=greatV c.2.1 || decide (6<wordsE c.2.2)
def greatC(l:List CE):Bool:=l.any badC || (decide (12<l.length) || decide (18<weightC l))
theorem greatC_row{l:List CE}{c:CE}(h:c∈l)(hb:badC c=true):greatC l=true:=by
 unfold greatC;rw[List.any_eq_true.2 ⟨c,h,hb⟩]
 rfl
theorem greatC_rest{l:List CE}(h:∀c∈l,badC c=false):greatC l=(decide (12<l.length) || decide (18<weightC l)):=by
 unfold greatC;rw[List.any_eq_false.2 fun c hc=>by rw[h c hc];decide]
 rfl
theorem greatC_not{l:List CE}(h:greatC l=false):l.length≤12∧∀c∈l,c.2.1.length≤30∧(∀e∈c.2.1,wordsE e.2≤6)∧wordsE c.2.2≤6:=by
 unfold greatC at h;simp only[Bool.or_eq_false_iff,decide_eq_false_iff_not,List.any_eq_false]at h;refine⟨by omega,fun c hc=> ?_⟩;have hb:=h.1 c hc;unfold badC at hb;simp only[Bool.or_eq_true,decide_eq_true_iff,not_or,Bool.not_eq_true]at hb;obtain⟨h1,h2⟩:=greatE_not (l:=c.2.1.map Prod.snd) hb.1;rw[List.length_map]at h1;exact⟨h1,fun e he=>h2 e.2 (List.mem_map_of_mem he),by omega⟩
def PP.oneQ{S:Nat}(cs:Array Value):PP S:=⟨false,fun u w=>∃(g:Nat),S≤g∧u= .slice (some ⟨g,0,none⟩) 1 1∧Bx 34 w g cs,fun _ _ _ h hp=>(let ⟨g,h0,h1,h2⟩:=hp;⟨g,h0,h1,h2.ext h⟩),fun _ _ hg _ _ _ h hp=>(let ⟨g,h0,h1,h2⟩:=hp;⟨g,h0,h1,h2.chg h (by omega)⟩)⟩
theorem one_slq{w:World}{g:Nat}{b:Bool}{a1:Option Addr}{n1 c1:Nat}{a2:Option Addr}{n2 c2:Nat}{e:RE}(h:Bx 34 w g #[.bool b,.slice a1 n1 c1,.slice a2 n2 c2])(hR:RawE w (.agg #[.bool b,.slice a1 n1 c1,.slice a2 n2 c2]) e):SLQ w (.slice (some ⟨g,0,none⟩) 1 1) [e]:=by
 refine⟨some ⟨g,0,none⟩,1,rfl,Nat.le_refl _,by omega,.inr ⟨g,0,rfl,fun i x hx=> ?_⟩⟩
 have hi:i=0:=by
  have:=(List.getElem?_eq_some_iff.1 hx).1
  simp at this
  exact this
 subst hi;simp only[List.getElem?_cons_zero,Option.some.injEq]at hx;subst hx;exact⟨_,rfl,fun j v hj=>by rw[show 0+0*3+j=j by omega,h.cell];exact hj,hR⟩
theorem rhs_cells'{wz:World}{g o:Nat}{b s t:Value}(h2:wz.cell? ⟨g,o+2,none⟩=some b)(h3:wz.cell? ⟨g,o+3,none⟩=some s)(h4:wz.cell? ⟨g,o+4,none⟩=some t):∀(j:Nat) (v:Value),(#[b,s,t]:Array Value)[j]? =some v→wz.cell? ⟨g,o+2+j,none⟩=some v:=by
 intro j v hj
 match j,hj with
 |0,hj=>cases hj;exact h2
 |1,hj=>cases hj;exact h3
 |2,hj=>cases hj;exact h4
 |j+3,hj=>simp at hj
set_option maxHeartbeats 8000000 in
theorem greatC_calls(v:Value)(ms:List CE)(w:World)(hv:CLE w v ms)(hl:ms.length≤281474976710656):
  Calls Tryz.prog 16 #[v] w fun e w'=>e= .returned (.bool (greatC ms))∧Ext w w':=by
 obtain⟨ad,n,cap,hnl,rfl,hn1,hat⟩:=hv.at;rw[←hnl]at hl;have HN:=Lib.hid hnl;have HAT:=Lib.hid hat;clear hnl hat hv
 go_enter Tryz.func16,Tryz.ntmps16
 go_wp2_with fail
 go_loopw [3,4] (fun s3 s4 wr=>∃(i s:Nat),i≤n∧s4= .int .i64 (i:Int)∧s3= .int .i64 (s:Int)∧Hid (s=weightC (ms.take i)∧∀l∈ms.take i,badC l=false)∧s≤24*i∧Ext w wr) (fun _ s4 _=>((n:Int) - intOf s4).toNat)
 case atStart=>exact ⟨0,0,Nat.zero_le _,rfl,rfl,Lib.hid ⟨rfl,fun l hl=>by simp at hl⟩,Nat.zero_le _,Ext.refl _⟩
 case round=>
  obtain⟨i,s,hi,rfl,rfl,hS,hs18,hE0⟩:=hrel
  rcases Nat.eq_or_lt_of_le hi with hin |hin
  ·subst hin
   have hlt:¬((i:Int)<(i:Int)):=by omega
   have hG:greatC ms=(decide (12<i) || decide (18<s)):=by
    have h:=hS.out;rw[HN.out,List.take_length]at h;rw[greatC_rest h.2,h.1,←HN.out]
   have HG:=Lib.hid hG;clear hG
   by_cases h12:12<i
   ·have h12':(12:Int)<(i:Int):=by omega
    have HR:Hid (greatC ms=true):=Lib.hid (by rw[HG.out,decide_eq_true h12];rfl)
    go_wp2;go_ret
    exact⟨by rw[HR.out]<;>rfl,hE0⟩
   ·have h12':¬(12:Int)<(i:Int):=by omega
    by_cases h18:18<s
    ·have h18':(18:Int)<(s:Int):=by omega
     have HR:Hid (greatC ms=true):=Lib.hid (by rw[HG.out,decide_eq_true h18,Bool.or_true])
     go_wp2;go_ret
     exact⟨by rw[HR.out]<;>rfl,hE0⟩
    ·have h18':¬(18:Int)<(s:Int):=by omega
     have hd18:decide ((18:Int)<(s:Int))=false:=decide_eq_false h18'
     have HR:Hid (greatC ms=false):=Lib.hid (by rw[HG.out,decide_eq_false h18,decide_eq_false h12];rfl)
     go_wp2;go_ret
     exact⟨by rw[HR.out]<;>rfl,hE0⟩
  ·have hlt:(i:Int)<(n:Int):=by omega
   obtain⟨⟨cs,l,⟨xb,xs,xt⟩⟩,hx⟩:∃x,ms[i]? =some x:=⟨_,List.getElem?_eq_getElem (by rw[←HN.out];exact hin)⟩;obtain⟨g,off,rfl,ay,ny,py,bby,a1y,n1y,c1y,a2y,n2y,c2y, -, -,hcell,hTL,hRX⟩:=HAT.out i _ hx
   simp only at hcell hTL hRX
   obtain⟨hc0,hc1,hc2,hc3,hc4⟩:=hcell wr hE0;have HTL:=Lib.hid hTL;have HRX:=Lib.hid hRX;have HCE:=Lib.hid hcell;have HX:=Lib.hid (And.intro (List.mem_of_getElem? hx) (take_next hx));obtain⟨i1,hi1⟩:∃i1,i1=i+1:=⟨_,rfl⟩
   have hi1':(i:Int)+1=(i1:Int):=by omega
   have hi1n:i1≤n:=by omega
   have HI1:=Lib.hid hi1;clear hcell hx hTL hRX hi1;go_wp2_with fail;refine(great_calls _ l wr (HTL.out.ext hE0)).mono ?_;rintro e w2 ⟨rfl,e2⟩;obtain⟨p,hp⟩:∃p,p=greatV l:=⟨_,rfl⟩;rw[←hp];have HP:=Lib.hid hp;clear hp;have X2:=hE0.trans e2;clear hc0 hc1 hc2 hc3 hc4
   cases p with
   |true=>
    have HR:Hid (greatC ms=true):=Lib.hid (greatC_row HX.out.1 (by unfold badC;simp only;rw[←HP.out];rfl))
    go_wp2;go_ret
    exact⟨by rw[HR.out]<;>rfl,X2⟩
   |false=>
    obtain⟨g1,g2⟩:=greatE_not (l:=l.map Prod.snd) HP.out.symm;rw[List.length_map]at g1;have g3:=weightE_le (l:=l.map Prod.snd) HP.out.symm;have G2:=Lib.hid g2;obtain⟨hc0,hc1,hc2,hc3,hc4⟩:=HCE.out w2 X2;clear g2;go_wp2_with fail;refine(rqwords3_calls _ xb xs xt w2 (HRX.out.ext X2).1 HRX.out.2.2.2).mono ?_;rintro e w3 ⟨rfl,e3⟩;have X3:=X2.trans e3;obtain⟨t,ht⟩:∃t,t=xs.length+xt.length:=⟨_,rfl⟩;rw[←ht];have HT:=Lib.hid ht;clear ht hc0 hc1 hc2 hc3 hc4
    by_cases h6:6<t
    ·have h6':(6:Int)<(t:Int):=by omega
     have HR:Hid (greatC ms=true):=Lib.hid (greatC_row HX.out.1 (by unfold badC wordsE;simp only;rw[←HT.out,decide_eq_true h6,Bool.or_true]))
     go_wp2;go_ret
     exact⟨by rw[HR.out]<;>rfl,X3⟩
    ·have h6':¬(6:Int)<(t:Int):=by omega
     obtain⟨q,hq⟩:∃q,q=weightE (l.map Prod.snd):=⟨_,rfl⟩;obtain⟨q2,hq2⟩:∃q2,q2=weightE [((xb,xs,xt):RE)]:=⟨_,rfl⟩
     have hq6:q2≤6:=by
      rw[hq2]
      have:=heavyE_le (xb,xs,xt)
      unfold wordsE at this;simp only[weightE]at this ⊢
      have:=HT.out
      omega
     rw[←hq]at g3
     have hst:s+q+q2=weightC (ms.take i1)∧∀l∈ms.take i1,badC l=false:=by
      rw[HI1.out,HX.out.2];refine⟨by rw[weightC_snoc,←hS.out.1,hq,hq2],fun l' hl'=> ?_⟩
      rcases List.mem_append.1 hl' with h |h
      ·exact hS.out.2 l' h
      ·rw[List.mem_singleton]at h;rw[h];unfold badC wordsE
       simp only
       rw[←HP.out,←HT.out,decide_eq_false h6]
       rfl
     have HST:=Lib.hid hst;have HQ:=Lib.hid (And.intro hq hq2)
     have hb24:s+q+q2≤24*i1:=by have:=HI1.out;omega
     obtain⟨t1,ht1⟩:∃t1,t1=s+q:=⟨_,rfl⟩;obtain⟨t2,ht2⟩:∃t2,t2=t1+q2:=⟨_,rfl⟩
     have hb1:t1≤10000000000000000:=by omega
     have hw1:(s:Int)+(q:Int)=(t1:Int):=by omega
     have hw2:(t1:Int)+(q2:Int)=(t2:Int):=by omega
     have HSTT:Hid (t2=weightC (ms.take i1)∧∀l∈ms.take i1,badC l=false):=Lib.hid (by rw[ht2,ht1];exact HST.out)
     have hb2:t2≤24*i1:=by omega
     have HW:=Lib.hid (And.intro hw1 hw2)
     have hw6:xs.length+xt.length≤6:=by have:=HT.out;omega
     have HW6:=Lib.hid hw6;clear hst hq hq2 HST ht1 ht2 hw1 hw2 hw6 hb24;go_wp2_with fail;refine wpQ [PP.val (.int .i64 (s:Int)),PP.val (.slice (some ⟨g,off,none⟩) n cap),PP.val (.int .i64 (i:Int)),PP.val (.pointer (some ⟨g,off+i*5,none⟩)),PP.val (.pointer (some ⟨g,off+i*5+1,none⟩)),PP.val (.slice ay ny py),PP.val (.int .i64 (q:Int)),PP.val (.int .i64 (t1:Int)),PP.val (.slice (some ⟨g,off,none⟩) n cap),PP.val (.int .i64 (i:Int)),PP.val (.pointer (some ⟨g,off+i*5,none⟩)),PP.val (.pointer (some ⟨g,off+i*5+2,none⟩)),PP.val (.agg #[.bool bby,.slice a1y n1y c1y,.slice a2y n2y c2y]),PP.oneQ #[.bool bby,.slice a1y n1y c1y,.slice a2y n2y c2y],PP.val (.int .i64 (q2:Int)),PP.val (.int .i64 (t2:Int)),PP.val (.int .i64 (t2:Int))] [(0,16,3)] [0,1,2,3,4,5,6,7,8,9,10,11,12,13,14,15,16] ?_ ?_
     ·refine⟨?_,?_,?_,?_,?_,?_,?_,?_,?_,?_,?_,?_,?_,?_,?_,?_,?_,trivial⟩
      ·intro f w4 hG hp hl
       have l3:f 16= .int .i64 (s:Int):=hl.1 rfl
       simp only[OpGoal];go_simp;exact⟨_,rfl,Ext.refl _,rfl⟩
      ·intro f w4 hG hp hl;simp only[OpGoal];go_simp;exact⟨_,rfl,Ext.refl _,rfl⟩
      ·intro f w4 hG hp hl;simp only[OpGoal];go_simp;exact⟨_,rfl,Ext.refl _,rfl⟩
      ·intro f w4 hG hp hl;have q27:=tE hp 0 1 rfl rfl rfl;have q28:=tE hp 1 2 rfl rfl rfl;simp only[OpGoal];go_simp;exact⟨_,rfl,Ext.refl _,rfl⟩
      ·intro f w4 hG hp hl;have q29:=tE hp 0 3 rfl rfl rfl;simp only[OpGoal];go_simp;exact⟨_,rfl,Ext.refl _,rfl⟩
      ·intro f w4 hG hp hl;have hE:Ext w3 w4:=hG;have q30:=tE hp 0 4 rfl rfl rfl;have hcell:=(HCE.out _ (X3.trans hE)).2.1;simp only[OpGoal];go_simp;exact⟨_,rfl,Ext.refl _,rfl⟩
      ·intro f w4 hG hp hl;have hE:Ext w3 w4:=hG;have q31:=tE hp 0 5 rfl rfl rfl;change OpGoal _ _ _ f w4 Ext _;refine oC #[f 5] Tryz.func74 rfl rfl ?_;rw[q31];refine(weights_calls _ l _ (HTL.out.ext (X3.trans hE)) g1 (fun e he=>G2.out e.2 (List.mem_map_of_mem he))).mono ?_;rintro e w' ⟨rfl,h2⟩
       exact⟨_,rfl,h2,by rw[HQ.out.1]<;>rfl⟩
      ·intro f w4 hG hp hl;have hE:Ext w3 w4:=hG;have hS:=hE.size;have q26:=tE hp 0 0 rfl rfl rfl;have q32:=tE hp 1 6 rfl rfl rfl;have hs:=HW.out.1;simp only[OpGoal];go_simp;exact⟨_,rfl,Ext.refl _,congrArg (Value.int .i64) (Go.IntWalk.i64_in _ ⟨by omega,by omega⟩)⟩
      ·intro f w4 hG hp hl;simp only[OpGoal];go_simp;exact⟨_,rfl,Ext.refl _,rfl⟩
      ·intro f w4 hG hp hl;simp only[OpGoal];go_simp;exact⟨_,rfl,Ext.refl _,rfl⟩
      ·intro f w4 hG hp hl;have q34:=tE hp 0 8 rfl rfl rfl;have q35:=tE hp 1 9 rfl rfl rfl;simp only[OpGoal];go_simp;exact⟨_,rfl,Ext.refl _,rfl⟩
      ·intro f w4 hG hp hl;have q36:=tE hp 0 10 rfl rfl rfl;simp only[OpGoal];go_simp;exact⟨_,rfl,Ext.refl _,rfl⟩
      ·intro f w4 hG hp hl;have hE:Ext w3 w4:=hG;have q37:=tE hp 0 11 rfl rfl rfl;change OpGoal _ _ _ f w4 Ext _;have hcs:=HCE.out _ (X3.trans hE);exact og_loadAt (P:=Tryz.prog) _ _ g (off+i*5+2) _ _ rfl rfl q37 (rhs_cells' hcs.2.2.1 hcs.2.2.2.1 hcs.2.2.2.2) Tryz.underlying34 rfl (by kernel_rfl) rfl
      ·intro f w4 hG hp hl;have hE:Ext w3 w4:=hG;have hS:=hE.size;have q38:=tE hp 0 12 rfl rfl rfl;change OpGoal _ _ _ f w4 Ext _;exact og_buildSlice (P:=Tryz.prog) 23 34 1 3 _ [.agg #[.bool bby,.slice a1y n1y c1y,.slice a2y n2y c2y]] rfl rfl Tryz.underlying23 (by kernel_rfl) (by kernel_rfl) (by simp only[Act.eval];exact congrArg (fun z=> [(0,z)]) q38) rfl (by omega) (by omega) (by omega) (StrN.one rfl (all3 rfl rfl rfl)).size (fun w' he hb=>⟨_,hS,rfl,hb⟩)
      ·intro f w4 hG hp hl;have hE:Ext w3 w4:=hG;have q39:=tellV hp 0 13 rfl rfl (fun _=>hE);change OpGoal _ _ _ f w4 Ext _;refine oC #[f 13] Tryz.func75 rfl rfl ?_;obtain⟨gq, -,hvq,hbq⟩:=q39;rw[hvq];have hsl:=one_slq hbq (HRX.out.ext (X3.trans hE));refine(weight_calls _ [((xb,xs,xt):RE)] _ hsl (by simp) (fun e he=>by rw[List.mem_singleton]at he;rw[he];exact HW6.out)).mono ?_;rintro e w' ⟨rfl,h2⟩
       exact⟨_,rfl,h2,by rw[HQ.out.2]<;>rfl⟩
      ·intro f w4 hG hp hl;have hE:Ext w3 w4:=hG;have hS:=hE.size;have q33:=tE hp 0 7 rfl rfl rfl;have q40:=tE hp 1 14 rfl rfl rfl;have hs:=HW.out.2;simp only[OpGoal];go_simp;exact⟨_,rfl,Ext.refl _,congrArg (Value.int .i64) (Go.IntWalk.i64_in _ ⟨by omega,by omega⟩)⟩
      ·intro f w4 hG hp hl;have q41:=tE hp 0 15 rfl rfl rfl;simp only[OpGoal];go_simp;exact⟨_,rfl,Ext.refl _,rfl⟩
     ·intro f w4 hG hp;have hE:Ext w3 w4:=ChgS.nil hG
      have q3:f 16= .int .i64 (t2:Int):=endV hp 16 (by decide) rfl (fun h=>by cases h)
      try simp only[q3]
      clear hp;have X4:=X3.trans hE;clear hE;go_wp2;go_roundw
      case rel=>exact ⟨i1,t2,hi1n,rfl,rfl,HSTT,hb2,X4⟩
      case measure=>have:=HI1.out;simp[intOf];omega
def sameE(a b:CE):Bool:=decide (a.1=b.1)&&(decide (a.2.1=b.2.1)&&decide ((a.2.2.1=b.2.2.1∧a.2.2.2.1=b.2.2.2.1)∧a.2.2.2.2=b.2.2.2.2))
theorem sameE_iff{a b:CE}:sameE a b=true↔a=b:=by
 obtain⟨s,l,xb,xs,xt⟩:=a;obtain⟨s2,m,yb,ys,yt⟩:=b;unfold sameE;simp only[Bool.and_eq_true,decide_eq_true_iff,Prod.mk.injEq]
 constructor
 ·rintro⟨h1,h2,⟨h3,h4⟩,h5⟩;exact⟨h1,h2,h3,h4,h5⟩
 ·rintro⟨h1,h2,h3,h4,h5⟩;exact⟨h1,h2,⟨h3,h4⟩,h5⟩
theorem sameE_self(a:CE):sameE a a=true:=sameE_iff.2 rfl
set_option maxHeartbeats 4000000 in
theorem sameCons_calls(v u:Value)(a b:CE)(w:World)(hv:CnE w v a)(hu:CnE w u b):
  Calls Tryz.prog 23 #[v,u] w fun e w'=>e= .returned (.bool (sameE a b))∧Ext w w':=by
 obtain⟨s,l,⟨xb,xs,xt⟩⟩:=a;obtain⟨s2,m,⟨yb,ys,yt⟩⟩:=b;obtain⟨a,n,p,b,a1,n1,c1,a2,n2,c2,rfl,ht,hr⟩:=hv.op;have HT:=Lib.hid ht;have HR:=Lib.hid hr;clear ht hr;obtain⟨ay,ny,py,bby,a1y,n1y,c1y,a2y,n2y,c2y,rfl,hty,hry⟩:=hu.op;have HTy:=Lib.hid hty;have HRy:=Lib.hid hry;clear hty hry;obtain⟨w1,hw1,e1,b1_,b2_,s1⟩:=alloc2 w #[.int .i64 s,.slice a n p,.bool b,.slice a1 n1 c1,.slice a2 n2 c2] #[.int .i64 s2,.slice ay ny py,.bool bby,.slice a1y n1y c1y,.slice a2y n2y c2y] 36 36
 by_cases hss:s=s2
 ·have hse:(s==s2)=true:=by simpa using hss
  have HSS:=Lib.hid hss;clear hss
  go_enter Tryz.func23,Tryz.ntmps23
  go_wp2_with fail;rw[←hw1];refine(vsame_calls _ _ l m w1 (HT.out.ext e1) (HTy.out.ext e1)).mono ?_;rintro e w2 ⟨rfl,e2⟩;have E2:=e1.trans e2;have B2:=b1_.ext e2;have Q2:=b2_.ext e2;obtain⟨p,hp⟩:∃p,p=decide (l=m):=⟨_,rfl⟩;rw[←hp];have HP:=Lib.hid hp;clear hp hw1 b1_ b2_
  cases p with
  |false=>
   have HD:Hid (sameE (s,l,(xb,xs,xt)) (s2,m,(yb,ys,yt))=false):=Lib.hid (by unfold sameE;simp only;rw[←HP.out,Bool.false_and,Bool.and_false])
   go_wp2;go_ret
   exact⟨by rw[HD.out]<;>rfl,E2⟩
  |true=>
   have hb2:=B2.cell 2;have hb3:=B2.cell 3;have hb4:=B2.cell 4;have hy2:=Q2.cell 2;have hy3:=Q2.cell 3;have hy4:=Q2.cell 4;go_wp2_with fail;refine(rqsame3_calls _ _ xb yb xs xt ys yt w2 (HR.out.ext E2).1 (HRy.out.ext E2).1).mono ?_;rintro e w3 ⟨rfl,e3⟩;obtain⟨q,hq⟩:∃q,q=decide ((xb=yb∧xs=ys)∧xt=yt):=⟨_,rfl⟩;rw[←hq]
   have HD:Hid (sameE (s,l,(xb,xs,xt)) (s2,m,(yb,ys,yt))=q):=Lib.hid (by unfold sameE;simp only;rw[←HP.out,hq,decide_eq_true HSS.out,Bool.true_and,Bool.true_and])
   clear hq;go_wp2;go_ret
   exact⟨by rw[HD.out]<;>rfl,E2.trans e3⟩
 ·have hse:(s==s2)=false:=by simpa using hss
  have HD:Hid (sameE (s,l,(xb,xs,xt)) (s2,m,(yb,ys,yt))=false):=Lib.hid (by unfold sameE;simp only;rw[decide_eq_false hss,Bool.false_and])
  clear hss
  go_enter Tryz.func23,Tryz.ntmps23
  go_wp2;go_ret
  exact⟨by rw[HD.out]<;>rfl,by rw[←hw1];exact e1⟩
theorem TLO.chg{B g:Nat}{w w':World}{v:Value}{l:List TE}(h:TLO B w v l)(hc:Chg g w w')(hg:g<B):TLO B w' v l:=by
 obtain⟨⟨ts,h1,h2,h3⟩,hd⟩:=h;exact⟨⟨ts,h1,h2.chg hc hg,fun j t e a b=>⟨(h3 j t e a b).1,(h3 j t e a b).2.chg hc hg⟩⟩,hd⟩
def CnY(B:Nat)(w:World)(v:Value)(c:CE):Prop:=∃a n cp b a1 n1 c1 a2 n2 c2,v= .agg #[.int .i64 c.1,.slice a n cp,.bool b,.slice a1 n1 c1,.slice a2 n2 c2]∧TLO B w (.slice a n cp) c.2.1∧FrE B w (.agg #[.bool b,.slice a1 n1 c1,.slice a2 n2 c2]) c.2.2∧(Dig W c.2.2.2.1∧Dig W c.2.2.2.2∧c.2.2.2.1.length+c.2.2.2.2.length≤9223372036854775807)
theorem CnY.ext{B:Nat}{w w':World}{v:Value}{c:CE}(h:CnY B w v c)(he:Ext w w'):CnY B w' v c:=by
 obtain⟨a,n,cp,b,a1,n1,c1,a2,n2,c2,h1,h2,h3,h4⟩:=h;exact⟨a,n,cp,b,a1,n1,c1,a2,n2,c2,h1,h2.ext he,FrR.ext h3 he,h4⟩
theorem CnY.chg{B g:Nat}{w w':World}{v:Value}{c:CE}(h:CnY B w v c)(hc:Chg g w w')(hg:g<B):CnY B w' v c:=by
 obtain⟨a,n,cp,b,a1,n1,c1,a2,n2,c2,h1,h2,h3,h4⟩:=h;exact⟨a,n,cp,b,a1,n1,c1,a2,n2,c2,h1,h2.chg hc hg,FrR.chg h3 hc hg,h4⟩
theorem CnY.mono{B B':Nat}{w:World}{v:Value}{c:CE}(h:CnY B w v c)(hB:B'≤B):CnY B' w v c:=by
 obtain⟨a,n,cp,b,a1,n1,c1,a2,n2,c2,h1,h2,h3,h4⟩:=h;exact⟨a,n,cp,b,a1,n1,c1,a2,n2,c2,h1,h2.mono hB,FrR.mono h3 hB,h4⟩
theorem CnY.cnE{B:Nat}{w:World}{v:Value}{c:CE}(h:CnY B w v c):CnE w v c:=by
 obtain⟨a,n,cp,b,a1,n1,c1,a2,n2,c2,h1,h2,h3,h4⟩:=h;exact⟨a,n,cp,b,a1,n1,c1,a2,n2,c2,h1,h2.tle,FrR.raw h3,h4⟩
def PP.cnY{S:Nat}(c:CE):PP S:=⟨false,fun u w=>CnY S w u c,fun _ _ _ h hp=>hp.ext h,fun _ _ hg _ _ _ h hp=>hp.chg h hg⟩
def PP.tlo{S:Nat}(l:List TE):PP S:=⟨false,fun u w=>TLO S w u l,fun _ _ _ h hp=>hp.ext h,fun _ _ hg _ _ _ h hp=>hp.chg h hg⟩
def PP.frE{S:Nat}(e:RE):PP S:=⟨false,fun u w=>FrE S w u e,fun _ _ _ h hp=>FrR.ext hp h,fun _ _ hg _ _ _ h hp=>FrR.chg hp h hg⟩
set_option maxHeartbeats 4000000 in
theorem copyCons_calls(v:Value)(c:CE)(w:World)(hv:CnE w v c)(hn:c.2.1.length≤1000)(hl:∀e∈c.2.1,wordsE e.2≤6)(hr:wordsE c.2.2≤6):
  Calls Tryz.prog 27 #[v] w fun e w'=>∃v',e= .returned v'∧CnY w.heap.size w' v' c∧Ext w w':=by
 obtain⟨s,l,⟨xb,xs,xt⟩⟩:=c
 simp only at hn hl hr
 obtain⟨a,n,p,b,a1,n1,c1,a2,n2,c2,rfl,ht,hr⟩:=hv.op;have HT:=Lib.hid ht;have HR:=Lib.hid hr;clear ht hr;unfold wordsE at hr
 simp only at hr
 have HL:=Lib.hid hl;have HD:=Lib.hid HR.out.2;clear hl
 go_enter Tryz.func27,Tryz.ntmps27
 go_wp2_with fail;obtain⟨w1,hw1,e1,b1,b2,s1⟩:=alloc2 w #[.int .i64 s,.slice a n p,.bool b,.slice a1 n1 c1,.slice a2 n2 c2] #[.int .i64 0,.slice none 0 0,.bool false,.slice none 0 0,.slice none 0 0] 36 36;rw[←hw1];clear hw1;refine wpP [⟨9,(w.heap.size+1),36,PP.cnY (s,l,(xb,xs,xt))⟩] [PP.val (.pointer (some ⟨w.heap.size,0,none⟩)),PP.val (.int .i64 s),PP.val (.pointer (some ⟨w.heap.size,1,none⟩)),PP.val (.slice a n p),PP.tlo l,PP.val (.pointer (some ⟨w.heap.size,2,none⟩)),PP.val (.agg #[.bool b,.slice a1 n1 c1,.slice a2 n2 c2]),PP.frE (xb,xs,xt),PP.cnY (s,l,(xb,xs,xt)),PP.any] [] [9,8,7,6,5,4,3,2,1,0] ?_ ?_ ?_ ?_ ?_
 ·intro x hx;simp only[List.mem_singleton]at hx;subst hx;exact⟨by show(w.heap.size+1)<w1.heap.size;omega,rfl⟩
 ·intro x hx;simp only[List.mem_singleton]at hx;subst hx;rfl
 ·intro x hx y hy h;simp only[List.mem_singleton]at hx hy;subst hx hy;exact absurd rfl h
 ·refine⟨?_,?_,?_,?_,?_,?_,?_,?_,?_,?_,trivial⟩
  ·intro f w2 hG hp hl;simp only[OpGoal];go_simp;exact⟨_,rfl,Ext.refl _,rfl⟩
  ·intro f w2 hG hp hl;have hE:Ext w1 w2:=hG;have q3:=tE hp 0 0 rfl rfl rfl;have hcell:=(b1.ext hE).cell 0;simp only[OpGoal];go_simp;exact⟨_,rfl,Ext.refl _,rfl⟩
  ·intro f w2 hG hp hl;simp only[OpGoal];go_simp;exact⟨_,rfl,Ext.refl _,rfl⟩
  ·intro f w2 hG hp hl;have hE:Ext w1 w2:=hG;have q5:=tE hp 0 2 rfl rfl rfl;have hcell:=(b1.ext hE).cell 1;simp only[OpGoal];go_simp;exact⟨_,rfl,Ext.refl _,rfl⟩
  ·intro f w2 hG hp hl;have hE:Ext w1 w2:=hG;have hS:=hE.size;have q6:=tE hp 0 3 rfl rfl rfl;change OpGoal _ _ _ f w2 Ext _;refine oC #[f 3] Tryz.func89 rfl rfl ?_;rw[q6];refine(copy5o_calls _ l _ (HT.out.ext (e1.trans hE)) hn HL.out).mono ?_;rintro e w' ⟨v',rfl,h1,h2⟩;exact⟨v',rfl,h2,h1.mono hS⟩
  ·intro f w2 hG hp hl;simp only[OpGoal];go_simp;exact⟨_,rfl,Ext.refl _,rfl⟩
  ·intro f w2 hG hp hl;have hE:Ext w1 w2:=hG;have q8:=tE hp 0 5 rfl rfl rfl;have hbx:=b1.ext hE;have hcell0:=hbx.cell 0;have hcell1:=hbx.cell 1;have hcell2:=hbx.cell 2;have hcell3:=hbx.cell 3;have hcell4:=hbx.cell 4;simp only[OpGoal];go_simp;exact⟨_,rfl,Ext.refl _,rfl⟩
  ·intro f w2 hG hp hl;have hE:Ext w1 w2:=hG;have hS:=hE.size;have q9:=tE hp 0 6 rfl rfl rfl;change OpGoal _ _ _ f w2 Ext _;refine oC #[f 6] Tryz.func76 rfl rfl ?_;rw[q9];refine(rqcopy3_calls _ xb xs xt _ ((HR.out.ext (e1.trans hE)).1) (by omega) (by omega)).mono ?_;rintro e w' ⟨v',rfl,h1,h2⟩;exact⟨v',rfl,h2,FrR.mono h1 hS⟩
  ·intro f w2 hG hp hl;have hE:Ext w1 w2:=hG;have q4:=tE hp 0 1 rfl rfl rfl;have q7:=tellV hp 1 4 rfl rfl (fun _=>hE);have q10:=tellV hp 2 7 rfl rfl (fun _=>hE);obtain⟨ad,n9,cap,hv⟩:=TLO.val q7;obtain⟨ad1,l1,cap1,ad2,l2,cap2,hv2,hq⟩:=FrR.opn q10;simp only[OpGoal];go_simp;exact⟨_,rfl,Ext.refl _,_,_,_,_,_,_,_,_,_,_,rfl,hv▸q7,hq,HD.out⟩
  ·intro f w2 hG hp hl;have hE:Ext w1 w2:=hG;have hS:=hE.size;have q11:=tellV hp 0 8 rfl rfl (fun _=>hE);intro hg0;change OpGoal _ _ _ f w2 (Chg _) _;obtain⟨a',n',p',b',a1',n1',c1',a2',n2',c2',hv,ht,hq,hz⟩:=q11;exact og_store (P:=Tryz.prog) _ _ _ (w.heap.size+1) _ _ _ (PP.cnY (s,l,(xb,xs,xt)):PP _).p rfl rfl rfl hv (show Bx 36 w2 _ _ from hg0.trans b2) (by kernel_rfl) rfl (all5 rfl rfl rfl rfl rfl) (fun w' h=>⟨a',n',p',b',a1',n1',c1',a2',n2',c2',rfl,ht.chg h (by omega),FrR.chg hq h (by omega),hz⟩)
 ·intro f w2 hG hp;obtain⟨cs0,hbx0,hz0⟩:∃cs,Bx 36 w2 (w.heap.size+1) cs∧(PP.cnY (s,l,(xb,xs,xt)):PP w1.heap.size).p (.agg cs) w2:=endS hp 9 (by decide);clear hp;have hz1:=hz0.mono (show w.heap.size≤_ by omega);obtain⟨a',n',p',b',a1',n1',c1',a2',n2',c2',hvv,hnn,hmm,hzz⟩:=hz0
  cases hvv
  go_wp2;refine ret_box 2 36 (w.heap.size+1) 36 _ _ (by kernel_rfl) rfl hbx0 Tryz.underlying36 rfl (by kernel_rfl) rfl ?_;exact⟨_,rfl,hz1,e1.stepS hG (by simp)⟩
theorem ownsRow_growN{B e n m:Nat}{w w':World}{v:Value}{xs:List Value}(h:w.ownsRow B e n v m xs)(hg:w.grownBy w' v.ownBlock):Ext w w'∨∃g cs,Bx e w g cs∧Chg g w w':=by
 rcases h.2 with⟨h1,h2⟩ |⟨g,cap,cur,h1,h2,h3,h4⟩
 ·rw[h1]at hg;exact .inl hg
 ·rw[h1]at hg;exact .inr ⟨g,cur,h3,hg⟩
theorem five_cells{wz:World}{g o:Nat}{a b c d e:Value}(h0:wz.cell? ⟨g,o,none⟩=some a)(h1:wz.cell? ⟨g,o+1,none⟩=some b)(h2:wz.cell? ⟨g,o+2,none⟩=some c)(h3:wz.cell? ⟨g,o+3,none⟩=some d)(h4:wz.cell? ⟨g,o+4,none⟩=some e):∀(j:Nat) (v:Value),(#[a,b,c,d,e]:Array Value)[j]? =some v→wz.cell? ⟨g,o+j,none⟩=some v:=by
 intro j v hj
 match j,hj with
 |0,hj=>cases hj;exact h0
 |1,hj=>cases hj;exact h1
 |2,hj=>cases hj;exact h2
 |3,hj=>cases hj;exact h3
 |4,hj=>cases hj;exact h4
 |j+5,hj=>simp at hj
def sameL:List CE→List CE→Bool
 | [],[]=>true
 |a::l,b::m=>sameE a b&&sameL l m
 |_,_=>false
theorem sameL_self:∀l,sameL l l=true
 | []=>rfl
 |a::l=>by unfold sameL;rw[sameE_self,sameL_self l];rfl
theorem sameL_iff:∀{l m:List CE},sameL l m=true↔l=m
 | [],[]=>by simp[sameL]
 | [],_::_=>by simp[sameL]
 |_::_,[]=>by simp[sameL]
 |a::l,b::m=>by
  unfold sameL;rw[Bool.and_eq_true,sameE_iff,sameL_iff,List.cons.injEq]
theorem sameL_no{l m:List CE}(h:l≠m):sameL l m=false:=by
 cases hs:sameL l m
 ·rfl
 ·exact absurd (sameL_iff.1 hs) h
set_option maxHeartbeats 8000000 in
theorem sameC_calls(v u:Value)(l m:List CE)(w:World)(hv:CLE w v l)(hu:CLE w u m):
  Calls Tryz.prog 25 #[v,u] w fun e w'=>e= .returned (.bool (sameL l m))∧Ext w w':=by
 obtain⟨ad,n,cap,hnl,rfl,hn1,hat⟩:=hv.at;obtain⟨ad2,n2,cap2,hml,rfl,hm1,hat2⟩:=hu.at;have HN:=Lib.hid hnl;have HM:=Lib.hid hml;have HAT:=Lib.hid hat;have HAT2:=Lib.hid hat2;clear hnl hml hat hat2 hv hu
 go_enter Tryz.func25,Tryz.ntmps25
 by_cases hnm:n=n2
 ·subst hnm
  have hz:((n:Int) !=(n:Int))=false:=by simp
  go_wp2_with fail;clear hz
  go_loopw [5] (fun s wr=>∃i:Nat,i≤n∧s= .int .i64 (i:Int)∧Hid (l.take i=m.take i)∧Ext w wr) (fun s _=>((n:Int) - intOf s).toNat)
  case atStart=>exact ⟨0,Nat.zero_le _,rfl,Lib.hid rfl,Ext.refl _⟩
  case round=>
   obtain⟨i,hi,rfl,hS,hE0⟩:=hrel
   rcases Nat.eq_or_lt_of_le hi with hin |hin
   ·subst hin
    have hlt:¬((i:Int)<(i:Int)):=by omega
    have hlm:l=m:=by
     have:=hS.out
     rwa [HN.out,List.take_length,←HN.out,HM.out,List.take_length]at this
    have HR:Hid (sameL l m=true):=Lib.hid (sameL_iff.2 hlm)
    clear hlm;go_wp2;go_ret
    exact⟨by rw[HR.out]<;>rfl,hE0⟩
   ·have hlt:(i:Int)<(n:Int):=by omega
    obtain⟨⟨cs,ct,cr⟩,hx⟩:∃x,l[i]? =some x:=⟨_,List.getElem?_eq_getElem (by rw[←HN.out];exact hin)⟩;obtain⟨⟨ds,dt,dr⟩,hy⟩:∃x,m[i]? =some x:=⟨_,List.getElem?_eq_getElem (by rw[←HM.out];exact hin)⟩;obtain⟨g,off,rfl,ay,ny,py,bby,a1y,n1y,c1y,a2y,n2y,c2y, -, -,hcell,hTL,hRX⟩:=HAT.out i _ hx;obtain⟨gz,offz,rfl,az,nz,pz,bbz,a1z,n1z,c1z,a2z,n2z,c2z, -, -,hcellz,hTLz,hRXz⟩:=HAT2.out i _ hy
    simp only at hcell hTL hRX hcellz hTLz hRXz
    have HX:=Lib.hid (And.intro hx hy);have HC:=Lib.hid (And.intro hcell hcellz);have HRX:=Lib.hid (show CnE w (.agg #[.int .i64 cs,.slice ay ny py,.bool bby,.slice a1y n1y c1y,.slice a2y n2y c2y]) (cs,ct,cr)from⟨ay,ny,py,bby,a1y,n1y,c1y,a2y,n2y,c2y,rfl,hTL,hRX⟩);have HRZ:=Lib.hid (show CnE w (.agg #[.int .i64 ds,.slice az nz pz,.bool bbz,.slice a1z n1z c1z,.slice a2z n2z c2z]) (ds,dt,dr)from⟨az,nz,pz,bbz,a1z,n1z,c1z,a2z,n2z,c2z,rfl,hTLz,hRXz⟩);obtain⟨p,hp⟩:∃p,p=sameE (cs,ct,cr) (ds,dt,dr):=⟨_,rfl⟩;have HP:=Lib.hid hp;clear hx hy hcell hTL hRX hcellz hTLz hRXz hp;go_wp2_with fail;refine wpQ [PP.val (.slice (some ⟨g,off,none⟩) n cap),PP.val (.int .i64 (i:Int)),PP.val (.pointer (some ⟨g,off+i*5,none⟩)),PP.val (.agg #[.int .i64 cs,.slice ay ny py,.bool bby,.slice a1y n1y c1y,.slice a2y n2y c2y]),PP.val (.slice (some ⟨gz,offz,none⟩) n cap2),PP.val (.int .i64 (i:Int)),PP.val (.pointer (some ⟨gz,offz+i*5,none⟩)),PP.val (.agg #[.int .i64 ds,.slice az nz pz,.bool bbz,.slice a1z n1z c1z,.slice a2z n2z c2z]),PP.val (.bool p),PP.val (.bool (!p))] [] [0,1,2,3,4,5,6,7,8,9] ?_ ?_
    ·refine⟨?_,?_,?_,?_,?_,?_,?_,?_,?_,?_,trivial⟩
     ·intro f w4 hG hp hl;simp only[OpGoal];go_simp;exact⟨_,rfl,Ext.refl _,rfl⟩
     ·intro f w4 hG hp hl;simp only[OpGoal];go_simp;exact⟨_,rfl,Ext.refl _,rfl⟩
     ·intro f w4 hG hp hl;have q17:=tE hp 0 0 rfl rfl rfl;have q18:=tE hp 1 1 rfl rfl rfl;simp only[OpGoal];go_simp;exact⟨_,rfl,Ext.refl _,rfl⟩
     ·intro f w4 hG hp hl;have hE:Ext wr w4:=hG;have q19:=tE hp 0 2 rfl rfl rfl;change OpGoal _ _ _ f w4 Ext _;have hcs:=HC.out.1 _ (hE0.trans hE);exact og_loadAt (P:=Tryz.prog) _ _ g (off+i*5) _ _ rfl rfl q19 (five_cells hcs.1 hcs.2.1 hcs.2.2.1 hcs.2.2.2.1 hcs.2.2.2.2) Tryz.underlying36 rfl (by kernel_rfl) rfl
     ·intro f w4 hG hp hl;simp only[OpGoal];go_simp;exact⟨_,rfl,Ext.refl _,rfl⟩
     ·intro f w4 hG hp hl;simp only[OpGoal];go_simp;exact⟨_,rfl,Ext.refl _,rfl⟩
     ·intro f w4 hG hp hl;have q21:=tE hp 0 4 rfl rfl rfl;have q22:=tE hp 1 5 rfl rfl rfl;simp only[OpGoal];go_simp;exact⟨_,rfl,Ext.refl _,rfl⟩
     ·intro f w4 hG hp hl;have hE:Ext wr w4:=hG;have q23:=tE hp 0 6 rfl rfl rfl;change OpGoal _ _ _ f w4 Ext _;have hcs:=HC.out.2 _ (hE0.trans hE);exact og_loadAt (P:=Tryz.prog) _ _ gz (offz+i*5) _ _ rfl rfl q23 (five_cells hcs.1 hcs.2.1 hcs.2.2.1 hcs.2.2.2.1 hcs.2.2.2.2) Tryz.underlying36 rfl (by kernel_rfl) rfl
     ·intro f w4 hG hp hl;have hE:Ext wr w4:=hG;have q20:=tE hp 0 3 rfl rfl rfl;have q24:=tE hp 1 7 rfl rfl rfl;change OpGoal _ _ _ f w4 Ext _;refine oC #[f 3,f 7] Tryz.func23 rfl rfl ?_;rw[q20,q24];refine(sameCons_calls _ _ (cs,ct,cr) (ds,dt,dr) _ (HRX.out.ext (hE0.trans hE)) (HRZ.out.ext (hE0.trans hE))).mono ?_;rintro e w' ⟨rfl,h2⟩
      exact⟨_,rfl,h2,by rw[HP.out]<;>rfl⟩
     ·intro f w4 hG hp hl;have q25:=tE hp 0 8 rfl rfl rfl;simp only[OpGoal];go_simp;exact⟨_,rfl,Ext.refl _,rfl⟩
    ·intro f w4 hG hp;have hE:Ext wr w4:=ChgS.nil hG
     have q26:f 9= .bool (!p):=endV hp 9 (by decide) rfl (fun h=>by cases h)
     try simp only[q26]
     clear hp;have X4:=hE0.trans hE;clear hE
     cases p with
     |true=>
      have hxy:=sameE_iff.1 HP.out.symm
      have HT:Hid (l.take (i+1)=m.take (i+1)):=Lib.hid (by rw[take_next HX.out.1,take_next HX.out.2,hS.out,hxy])
      clear hxy;go_wp2;go_roundw
      case rel=>exact ⟨i+1,by omega,congrArg (Value.int .i64) (by omega),HT,X4⟩
      case measure=>simp [intOf];omega
     |false=>
      have HR:Hid (sameL l m=false):=Lib.hid (sameL_no fun h=>by
       have h1:=HX.out.1;rw[h,HX.out.2]at h1
       cases h1
       have:=HP.out
       rw[sameE_self]at this
       cases this)
      go_wp2;go_ret
      exact⟨by rw[HR.out]<;>rfl,X4⟩
 ·have hne:((n:Int) !=(n2:Int))=true:=by rw[bne_iff_ne];omega
  have HR:Hid (sameL l m=false):=Lib.hid (sameL_no fun h=>hnm (by rw[HN.out,HM.out,h]))
  go_wp2;go_ret
  exact⟨by rw[HR.out]<;>rfl,Ext.refl _⟩
theorem sameC_true(v u:Value)(l:List CE)(w:World)(hv:CLE w v l)(hu:CLE w u l):Calls Tryz.prog 25 #[v,u] w fun e w'=>e= .returned (.bool true)∧Ext w w':=by
 refine(sameC_calls v u l l w hv hu).mono ?_;rintro e w' ⟨rfl,h⟩;exact⟨by rw[sameL_self],h⟩
theorem sameCons_true(v u:Value)(a:CE)(w:World)(hv:CnE w v a)(hu:CnE w u a):Calls Tryz.prog 23 #[v,u] w fun e w'=>e= .returned (.bool true)∧Ext w w':=by
 refine(sameCons_calls v u a a w hv hu).mono ?_;rintro e w' ⟨rfl,h⟩;exact⟨by rw[sameE_self],h⟩
open Go.ChangeShapes Go.WideShapes Go.ChangeAt
theorem cellsCn:Tryz.prog.cellsOf 36=5:=by kernel_rfl
theorem bytesCn:Tryz.prog.bytesOf 36=88:=by kernel_rfl
section
variable {H:Type} {enc:TypeId×Value→H} {w:World} {base:Nat} {spare:Nat→Bool} {held:Bool}
theorem trod_len{fuel:Nat}{t:TypeId}{cs:List Value}{x:DataW H×List MemPlace}(h:DataW.trod enc Tryz.prog w base spare held fuel t cs=some x)(ht:t=29):∃v,cs=[v]∧∃a n c,v= .slice a n c:=by
 subst ht
 rcases Go.Deep.open_slice Tryz.underlying29 h with⟨rfl,rfl⟩ |⟨a,len,cap,m,k,D,Pl,rfl,hb,hl,hm,hmm,rfl,hx⟩
 ·exact⟨_,rfl,_,_,_,rfl⟩
 ·exact⟨_,rfl,_,_,_,rfl⟩
theorem open_consC{fuel:Nat}{cs:List Value}{x:DataW H×List MemPlace}(B:Nat)(hb:B≤4611686018427387903)(hB:∀n∈x.1.weights Tryz.prog 36,n≤B)(h:DataW.trod enc Tryz.prog w base spare held fuel 36 cs=some x):
  ∃s v0 v1 v2 v3 c,cs=[.int .i64 s,v0,v1,v2,v3]∧CnE w (.agg #[.int .i64 s,v0,v1,v2,v3]) c∧c.1=s∧(Lit.int .i64 s).wf=true:=by
 obtain⟨y0,y1,y2,n,hx,hl,h0,h1,h2⟩:=Go.Deep.trod_struct3 Tryz.underlying36 h;rw[cellsCn]at hl
 obtain⟨c0,c1,c2,c3,c4,rfl⟩:∃c0 c1 c2 c3 c4,cs=[c0,c1,c2,c3,c4]:=by
  rcases cs with _ |⟨c0,_ |⟨c1,_ |⟨c2,_ |⟨c3,_ |⟨c4,_ |⟨c5,cs⟩⟩⟩⟩⟩⟩<;>simp at hl
  exact⟨_,_,_,_,_,rfl⟩
 obtain⟨s,hs,ws, -⟩:=open_int1 h0;obtain⟨v,hv,a,m,cp,rfl⟩:=trod_len h1 rfl
 have hB1:∀n∈y1.1.weights Tryz.prog 29,n≤B:=fun n hn=>hB n (by
  rw[hx];simp only[DataW.weights,Tryz.underlying36]
  first
   |exact List.mem_append_right _ (List.mem_append_left _ hn)
   | (simp only[List.mem_append];exact .inr (.inl hn)))
 obtain⟨v',l,hv',hT⟩:=open_termsF B hb hB1 h1;obtain⟨b,p,q,xs,ys,hr,hL,hd,hL2,hd2,hB2,hw⟩:=open_ratC h2
 have hh:=hB2 B (fun n hn=>hB n (by
  rw[hx];simp only[DataW.weights,Tryz.underlying36]
  first
   |exact List.mem_append_right _ (List.mem_append_right _ (List.mem_append_left _ hn))
   | (simp only[List.mem_append];exact .inr (.inr (.inl hn)))))
 have e0:List.take (Tryz.prog.cellsOf 3) (List.drop 0 [c0,c1,c2,c3,c4])=[c0]:=by rw[cellsInt];rfl
 have e1:List.take (Tryz.prog.cellsOf 29) (List.drop 1 [c0,c1,c2,c3,c4])=[c1]:=by rw[cellsTs];rfl
 have e2:List.take (Tryz.prog.cellsOf 34) (List.drop 2 [c0,c1,c2,c3,c4])=[c2,c3,c4]:=by rw[cellsQ];rfl
 have h0': [c0]=[.int .i64 s]:=e0▸hs
 have h1': [c1]=[.slice a m cp]:=e1▸hv
 have h1'': [c1]=[v']:=e1▸hv'
 have h2': [c2,c3,c4]=[.bool b,p,q]:=e2▸hr
 simp only[List.cons.injEq,and_true]at h0' h1' h1'' h2';obtain⟨rfl,rfl,rfl⟩:=h2';subst h0' h1';subst h1'';have hE:RawE w (.agg #[.bool b,c3,c4]) (b,xs,ys):=⟨⟨c3,c4,rfl,hL,hL2⟩,hd,hd2,by show xs.length+ys.length≤_;omega⟩;have hL':=hL;have hL2':=hL2;obtain⟨a1,k1,rfl, -⟩:=hL';obtain⟨a2,k2,rfl, -⟩:=hL2';exact⟨s,_,_,_,_,(s,l,(b,xs,ys)),rfl,⟨_,_,_,_,_,_,_,_,_,_,rfl,hT,hE⟩,rfl,ws⟩
theorem open_consS{v:Value}{d:DataW H}{p:List MemPlace}{W0:World}{b0:Nat}(hv:Value.okWide Tryz.prog W0 .any b0 36 v)(h:DataW.Trod enc Tryz.prog w base spare held 36 v d p)(B:Nat)(hb:B≤4611686018427387903)(hB:∀n∈d.weights Tryz.prog 36,n≤B):
  ∃c,CnE w v c∧(Lit.int .i64 c.1).wf=true:=by
 obtain⟨arr,rfl,_⟩:=okWide_struct Tryz.underlying36 hv;obtain⟨fuel,hf⟩:=h;obtain⟨s,v0,v1,v2,v3,c,hcs,hE,hs,hw⟩:=open_consC B hb hB hf
 have he:arr=#[.int .i64 s,v0,v1,v2,v3]:=by
  have:arr.toList=[.int .i64 s,v0,v1,v2,v3]:=by simpa[Value.cells]using hcs
  rw[←Array.toArray_toList (xs:=arr),this]
 subst he;exact⟨c,hE,by rw[hs];exact hw⟩
theorem open_conssS{v:Value}{d:DataW H}{p:List MemPlace}{W0:World}{b0:Nat}(hv:Value.okWide Tryz.prog W0 .any b0 22 v)(h:DataW.Trod enc Tryz.prog w base spare held 22 v d p)(B:Nat)(hb:B≤4611686018427387903)(hB:∀n∈d.weights Tryz.prog 22,n≤B):
  ∃l,CLE w v l∧l.length*Tryz.prog.bytesOf 36≤B:=by
 obtain⟨a,n,c,rfl⟩:=okWide_slice Tryz.underlying22 hv;obtain⟨fuel,hf⟩:=h
 obtain⟨v',ys,h1,h2,h3, -⟩:=open_structs (R:=CnE) (F:=fun _ _=>True) B Tryz.underlying22 cellsCn (by omega) (fun fuel cs x hl hw hx=>by
  obtain⟨s,v0,v1,v2,v3,c,rfl,hE, -, -⟩:=open_consC B hb hw hx
  exact⟨c,hE,trivial⟩) hB hf
 have hcs:(Value.slice a n c).cells.toList=[Value.slice a n c]:=rfl
 rw[hcs]at h1
 cases h1
 exact⟨ys,h2,h3⟩
end
end Go.Proofs.YtokfaggcojokgaaGreat
