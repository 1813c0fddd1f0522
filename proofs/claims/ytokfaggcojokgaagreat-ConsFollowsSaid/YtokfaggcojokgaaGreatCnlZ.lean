/-
 The law ConsCombines.
-/
import Derived.Test.YtokfaggcojokgaaGreatCnsZ
import Derived.Test.YtokfaggcojokgaaGreatCnjZ
import Derived.Test.YtokfaggcojokgaaGreatCmaZ
import Derived.Test.YtokfaggcojokgaaGreatCnhZ
import Derived.Test.YtokfaggcojokgaaGreatComZ
import Derived.Deep.AppendSrc
import Derived.Test.YtokfaggcojokgaaGreatCnfZ
import Derived.Test.YtokfaggcojokgaaGreatVfcZ
import Derived.Test.YtokfaggcojokgaaGreatCneZ
import Derived.Test.YtokfaggcojokgaaGreatCngZ
import Derived.Test.YtokfaggcojokgaaGreatCnkZ
import Derived.Test.YtokfaggcojokgaaGreatCniZ
import Derived.Test.YtokfaggcojokgaaGreatSsbZ
import Derived.Test.YtokfaggcojokgaaGreatCnaZ
namespace Go.Proofs.YtokfaggcojokgaaGreat
set_option maxRecDepth 100000
set_option maxHeartbeats 1000000
open Go.RowKit
set_option linter.unusedVariables false
set_option linter.unusedSimpArgs false
theorem cle_new{g N:Nat}{w:World}(vs:List Value)(cs:List CE)(h5:StrN 5 vs)(hb:Bx 36 w g (flatS vs).toArray)(hn:N=vs.length)(hq:N=cs.length)(hN:N≤9223372036854775807)(hR:∀(i:Nat) (u:Value) (y:CE),vs[i]? =some u→cs[i]? =some y→CnE w u y):CLE w (.slice (some ⟨g,0,Option.none⟩) N N) cs:=by
 have:=LS.of_hold (e:=36) (n:=5) (B:=0) (w:=w) (vs:=vs) (g:=g) (cap:=N) (rest:=[]) h5 (Nat.zero_le _) (by omega) hN (by rw[hn];simp) (by rw[List.append_nil];exact hb)
 rw[←hn]at this;exact OL.sl (R:=fun w u y=>CnE w u y) ⟨vs,this,by omega,hR⟩ (by omega)
theorem cle_new1{w:World}{g:Nat}{a:CE}{ax:Option Addr}{nx px:Nat}{bbx:Bool}{a1x:Option Addr}{n1x c1x:Nat}{a2x:Option Addr}{n2x c2x:Nat}(hb:Bx 36 w g #[.int .i64 a.1,.slice ax nx px,.bool bbx,.slice a1x n1x c1x,.slice a2x n2x c2x])(h0:CnE w (.agg #[.int .i64 a.1,.slice ax nx px,.bool bbx,.slice a1x n1x c1x,.slice a2x n2x c2x]) a):CLE w (.slice (some ⟨g,0,none⟩) 1 1) [a]:=by
 refine cle_new [.agg #[.int .i64 a.1,.slice ax nx px,.bool bbx,.slice a1x n1x c1x,.slice a2x n2x c2x]] _ ?_ hb rfl rfl (by omega) ?_
 ·intro v hv;simp only[List.mem_cons,List.not_mem_nil,or_false]at hv
  rcases hv with rfl
  ·exact⟨_,rfl,rfl,all5 rfl rfl rfl rfl rfl⟩
 ·intro i u y hu hy
  match i,hu,hy with
  |0,hu,hy=>
   cases hu
   cases hy
   exact h0
  |i+1,hu,hy=>simp at hu
theorem cle_new2{w:World}{g:Nat}{a b:CE}{ax:Option Addr}{nx px:Nat}{bbx:Bool}{a1x:Option Addr}{n1x c1x:Nat}{a2x:Option Addr}{n2x c2x:Nat}{ay:Option Addr}{ny py:Nat}{bby:Bool}{a1y:Option Addr}{n1y c1y:Nat}{a2y:Option Addr}{n2y c2y:Nat}(hb:Bx 36 w g #[.int .i64 a.1,.slice ax nx px,.bool bbx,.slice a1x n1x c1x,.slice a2x n2x c2x,.int .i64 b.1,.slice ay ny py,.bool bby,.slice a1y n1y c1y,.slice a2y n2y c2y])(h0:CnE w (.agg #[.int .i64 a.1,.slice ax nx px,.bool bbx,.slice a1x n1x c1x,.slice a2x n2x c2x]) a)(h1:CnE w (.agg #[.int .i64 b.1,.slice ay ny py,.bool bby,.slice a1y n1y c1y,.slice a2y n2y c2y]) b):CLE w (.slice (some ⟨g,0,none⟩) 2 2) [a,b]:=by
 refine cle_new [.agg #[.int .i64 a.1,.slice ax nx px,.bool bbx,.slice a1x n1x c1x,.slice a2x n2x c2x],.agg #[.int .i64 b.1,.slice ay ny py,.bool bby,.slice a1y n1y c1y,.slice a2y n2y c2y]] _ ?_ hb rfl rfl (by omega) ?_
 ·intro v hv;simp only[List.mem_cons,List.not_mem_nil,or_false]at hv
  rcases hv with rfl |rfl
  ·exact⟨_,rfl,rfl,all5 rfl rfl rfl rfl rfl⟩
  ·exact⟨_,rfl,rfl,all5 rfl rfl rfl rfl rfl⟩
 ·intro i u y hu hy
  match i,hu,hy with
  |0,hu,hy=>
   cases hu
   cases hy
   exact h0
  |1,hu,hy=>
   cases hu
   cases hy
   exact h1
  |i+2,hu,hy=>simp at hu
theorem cle_new3{w:World}{g:Nat}{a b c:CE}{ax:Option Addr}{nx px:Nat}{bbx:Bool}{a1x:Option Addr}{n1x c1x:Nat}{a2x:Option Addr}{n2x c2x:Nat}{ay:Option Addr}{ny py:Nat}{bby:Bool}{a1y:Option Addr}{n1y c1y:Nat}{a2y:Option Addr}{n2y c2y:Nat}{az:Option Addr}{nz pz:Nat}{bbz:Bool}{a1z:Option Addr}{n1z c1z:Nat}{a2z:Option Addr}{n2z c2z:Nat}(hb:Bx 36 w g #[.int .i64 a.1,.slice ax nx px,.bool bbx,.slice a1x n1x c1x,.slice a2x n2x c2x,.int .i64 b.1,.slice ay ny py,.bool bby,.slice a1y n1y c1y,.slice a2y n2y c2y,.int .i64 c.1,.slice az nz pz,.bool bbz,.slice a1z n1z c1z,.slice a2z n2z c2z])(h0:CnE w (.agg #[.int .i64 a.1,.slice ax nx px,.bool bbx,.slice a1x n1x c1x,.slice a2x n2x c2x]) a)(h1:CnE w (.agg #[.int .i64 b.1,.slice ay ny py,.bool bby,.slice a1y n1y c1y,.slice a2y n2y c2y]) b)(h2:CnE w (.agg #[.int .i64 c.1,.slice az nz pz,.bool bbz,.slice a1z n1z c1z,.slice a2z n2z c2z]) c):CLE w (.slice (some ⟨g,0,none⟩) 3 3) [a,b,c]:=by
 refine cle_new [.agg #[.int .i64 a.1,.slice ax nx px,.bool bbx,.slice a1x n1x c1x,.slice a2x n2x c2x],.agg #[.int .i64 b.1,.slice ay ny py,.bool bby,.slice a1y n1y c1y,.slice a2y n2y c2y],.agg #[.int .i64 c.1,.slice az nz pz,.bool bbz,.slice a1z n1z c1z,.slice a2z n2z c2z]] _ ?_ hb rfl rfl (by omega) ?_
 ·intro v hv;simp only[List.mem_cons,List.not_mem_nil,or_false]at hv
  rcases hv with rfl |rfl |rfl
  ·exact⟨_,rfl,rfl,all5 rfl rfl rfl rfl rfl⟩
  ·exact⟨_,rfl,rfl,all5 rfl rfl rfl rfl rfl⟩
  ·exact⟨_,rfl,rfl,all5 rfl rfl rfl rfl rfl⟩
 ·intro i u y hu hy
  match i,hu,hy with
  |0,hu,hy=>
   cases hu
   cases hy
   exact h0
  |1,hu,hy=>
   cases hu
   cases hy
   exact h1
  |2,hu,hy=>
   cases hu
   cases hy
   exact h2
  |i+3,hu,hy=>simp at hu
theorem great_in{l:List CE}{c:CE}(h:greatC l=false)(hc:c∈l):(c.2.1.length≤30∧(ratC c).2.1.length≤30)∧((∀e∈c.2.1,wordsE e.2≤6)∧wordsE c.2.2≤6)∧∀{w:World} {v:Value},CnE w v c→CnR 6 w v (ratC c):=by
 have lim:(100000:Nat)≤LIM:=by rw[LIM_eq];omega
 obtain⟨-,h2⟩:=greatC_not h;obtain⟨h3,h4,h5⟩:=h2 c hc;refine⟨⟨h3,by unfold ratC ratT;rw[List.length_map];exact h3⟩,⟨h4,h5⟩,fun hE=>hE.cnR 6 (by omega) (by omega) h4 h5⟩
set_option maxHeartbeats 16000000 in
theorem consChains_calls(v u t:Value)(a b c:CE)(w:World)(hv:CnE w v a)(hu:CnE w u b)(ht:CnE w t c):
  Calls Tryz.prog 5 #[v,u,t] w fun e w'=>e= .returned (.bool true)∧Ext w w':=by
 have HV:=Lib.hid hv;obtain⟨ax,nx,px,bbx,a1x,n1x,c1x,a2x,n2x,c2x,rfl, -, -⟩:=hv;have HU:=Lib.hid hu;obtain⟨ay,ny,py,bby,a1y,n1y,c1y,a2y,n2y,c2y,rfl, -, -⟩:=hu;have HW:=Lib.hid ht;obtain⟨az,nz,pz,bbz,a1z,n1z,c1z,a2z,n2z,c2z,rfl, -, -⟩:=ht;obtain⟨w1,hw1,e1,b1_,b2_,b3_,s1⟩:=alloc3 w #[.int .i64 a.1,.slice ax nx px,.bool bbx,.slice a1x n1x c1x,.slice a2x n2x c2x] #[.int .i64 b.1,.slice ay ny py,.bool bby,.slice a1y n1y c1y,.slice a2y n2y c2y] #[.int .i64 c.1,.slice az nz pz,.bool bbz,.slice a1z n1z c1z,.slice a2z n2z c2z] 36 36 36
 go_enter Tryz.func5,Tryz.ntmps5
 go_wp2_with fail;rw[←hw1];refine(speaksc_calls w1).mono ?_;rintro e w2 ⟨rfl,e2⟩;have E2:=e1.trans e2;have P2:=b1_.ext e2;have Q2:=b2_.ext e2;have R2:=b3_.ext e2;have hp0:=P2.cell 0;have hp1:=P2.cell 1;have hp2:=P2.cell 2;have hp3:=P2.cell 3;have hp4:=P2.cell 4;have hq0:=Q2.cell 0;have hq1:=Q2.cell 1;have hq2:=Q2.cell 2;have hq3:=Q2.cell 3;have hq4:=Q2.cell 4;have hr0:=R2.cell 0;have hr1:=R2.cell 1;have hr2:=R2.cell 2;have hr3:=R2.cell 3;have hr4:=R2.cell 4;clear hw1 b1_ b2_ b3_ e1 e2;obtain⟨w3,hw3,e3,bx3,s3⟩:=alloc1 w2 #[.int .i64 a.1,.slice ax nx px,.bool bbx,.slice a1x n1x c1x,.slice a2x n2x c2x,.int .i64 b.1,.slice ay ny py,.bool bby,.slice a1y n1y c1y,.slice a2y n2y c2y,.int .i64 c.1,.slice az nz pz,.bool bbz,.slice a1z n1z c1z,.slice a2z n2z c2z] 36;have E3:=E2.trans e3;have L3:=cle_new3 bx3 (HV.out.ext E3) (HU.out.ext E3) (HW.out.ext E3);go_wp2_with fail;rw[←hw3];refine(greatC_calls _ [a,b,c] w3 L3 (by simp)).mono ?_;rintro e w4 ⟨rfl,e4⟩;have E4:=E3.trans e4;have P4:=(P2.ext e3).ext e4;have Q4:=(Q2.ext e3).ext e4;have R4:=(R2.ext e3).ext e4;clear hw3 hp0 hp1 hp2 hp3 hp4 hq0 hq1 hq2 hq3 hq4 hr0 hr1 hr2 hr3 hr4 bx3 s3 P2 Q2 R2 L3 E2 E3 e3 e4;obtain⟨p,hp⟩:∃p,p=greatC [a,b,c]:=⟨_,rfl⟩;rw[←hp];have HP:=Lib.hid hp;clear hp
 cases p with
 |true=>
  go_wp2;go_ret;exact⟨rfl,E4⟩
 |false=>
 obtain⟨⟨-,la⟩, -,fa⟩:=great_in (c:=a) HP.out.symm (by simp);obtain⟨⟨-,lb⟩, -,fb⟩:=great_in (c:=b) HP.out.symm (by simp);obtain⟨⟨-,lc⟩, -,fc⟩:=great_in (c:=c) HP.out.symm (by simp);have FA:=Lib.hid (fun(w':World) (h:Ext w w')=>fa (HV.out.ext h));have FB:=Lib.hid (fun(w':World) (h:Ext w w')=>fb (HU.out.ext h));have FC:=Lib.hid (fun(w':World) (h:Ext w w')=>fc (HW.out.ext h));clear fa fb fc HP
 have SA:Hid (sens (ratC a).1=sens a.1):=Lib.hid rfl
 obtain⟨A,hA⟩:∃A,A=ratC a:=⟨_,rfl⟩;obtain⟨B,hB⟩:∃B,B=ratC b:=⟨_,rfl⟩;obtain⟨C,hC⟩:∃C,C=ratC c:=⟨_,rfl⟩;rw[←hA]at FA la SA;rw[←hB]at FB lb;rw[←hC]at FC lc;clear hA hB hC;have hp0:=P4.cell 0;have hp1:=P4.cell 1;have hp2:=P4.cell 2;have hp3:=P4.cell 3;have hp4:=P4.cell 4;have hq0:=Q4.cell 0;have hq1:=Q4.cell 1;have hq2:=Q4.cell 2;have hq3:=Q4.cell 3;have hq4:=Q4.cell 4;go_wp2_with fail;refine(dominates_calls 6 30 _ _ A B w4 (FA.out w4 E4) (FB.out w4 E4) la lb (by omega) (by omega)).mono ?_;rintro e w5 ⟨rfl,e5⟩;have E5:=E4.trans e5;have P5:=P4.ext e5;have Q5:=Q4.ext e5;have R5:=R4.ext e5;clear hp0 hp1 hp2 hp3 hp4 hq0 hq1 hq2 hq3 hq4 P4 Q4 R4 E4 e5;obtain⟨da,hda⟩:∃da,da=domC A A:=⟨_,rfl⟩;have HD:=Lib.hid hda
 have HS:Hid (da=sens a.1):=Lib.hid (by rw[hda,dom_self];exact SA.out)
 clear hda;obtain⟨p,hp⟩:∃p,p=domC A B:=⟨_,rfl⟩;rw[←hp];have HP:=Lib.hid hp;clear hp
 cases p with
 |false=>
  go_wp2_with fail;refine wpQ [PP.val (.agg #[.int .i64 a.1,.slice ax nx px,.bool bbx,.slice a1x n1x c1x,.slice a2x n2x c2x]),PP.val (.agg #[.int .i64 a.1,.slice ax nx px,.bool bbx,.slice a1x n1x c1x,.slice a2x n2x c2x]),PP.val (.bool da),PP.val (.pointer (some ⟨w.heap.size,0,none⟩)),PP.val (.int .i64 a.1),PP.val (.bool da),PP.val (.bool true),PP.val (.bool true)] [] [0,1,2,3,4,5,6,7] ?_ ?_
  ·refine⟨?_,?_,?_,?_,?_,?_,?_,?_,trivial⟩
   ·intro f wa hG hp hl;have hE:Ext w5 wa:=hG;change OpGoal _ _ _ f wa Ext _;exact og_load (P:=Tryz.prog) _ _ w.heap.size _ _ _ rfl rfl rfl (P5.ext hE) Tryz.underlying36 rfl (by kernel_rfl) rfl
   ·intro f wa hG hp hl;have hE:Ext w5 wa:=hG;change OpGoal _ _ _ f wa Ext _;exact og_load (P:=Tryz.prog) _ _ w.heap.size _ _ _ rfl rfl rfl (P5.ext hE) Tryz.underlying36 rfl (by kernel_rfl) rfl
   ·intro f wa hG hp hl;have hE:Ext w5 wa:=hG;have hS:=hE.size;have q30:=tE hp 0 0 rfl rfl rfl;have q31:=tE hp 1 1 rfl rfl rfl;change OpGoal _ _ _ f wa Ext _;refine oC #[f 0,f 1] Tryz.func28 rfl rfl ?_;rw[q30,q31];refine(dominates_calls 6 30 _ _ A A _ (FA.out _ (E5.trans hE)) (FA.out _ (E5.trans hE)) la la (by omega) (by omega)).mono ?_;rintro e w' ⟨rfl,h2⟩
    exact⟨_,rfl,h2,by rw[HD.out]<;>rfl⟩
   ·intro f wa hG hp hl;simp only[OpGoal];go_simp;exact⟨_,rfl,Ext.refl _,rfl⟩
   ·intro f wa hG hp hl;have hE:Ext w5 wa:=hG;have q33:=tE hp 0 3 rfl rfl rfl;have hcell:=(P5.ext hE).cell 0;simp only[OpGoal];go_simp;exact⟨_,rfl,Ext.refl _,rfl⟩
   ·intro f wa hG hp hl;have q34:=tE hp 0 4 rfl rfl rfl;change OpGoal _ _ _ f wa Ext _;refine oC #[f 4] Tryz.func33 rfl rfl ?_;rw[q34];refine(sense11_calls a.1 _).mono ?_;rintro e w' ⟨rfl,h2⟩
    exact⟨_,rfl,h2,by rw[HS.out]<;>rfl⟩
   ·intro f wa hG hp hl;have q32:=tE hp 0 2 rfl rfl rfl;have q35:=tE hp 1 5 rfl rfl rfl
    cases da<;>(simp only[OpGoal];go_simp;exact⟨_,rfl,Ext.refl _,rfl⟩)
   ·intro f wa hG hp hl;have q36:=tE hp 0 6 rfl rfl rfl;simp only[OpGoal];go_simp;exact⟨_,rfl,Ext.refl _,rfl⟩
  ·intro f wb hG hp;have hE:Ext w5 wb:=ChgS.nil hG
   have q6:f 7= .bool true:=endV hp 7 (by decide) rfl (fun h=>by cases h)
   try simp only[q6]
   clear hp;have X:=E5.trans hE;go_wp2;go_ret;exact⟨rfl,X⟩
 |true=>
 have hq0:=Q5.cell 0;have hq1:=Q5.cell 1;have hq2:=Q5.cell 2;have hq3:=Q5.cell 3;have hq4:=Q5.cell 4;have hr0:=R5.cell 0;have hr1:=R5.cell 1;have hr2:=R5.cell 2;have hr3:=R5.cell 3;have hr4:=R5.cell 4;go_wp2_with fail;refine(dominates_calls 6 30 _ _ B C w5 (FB.out w5 E5) (FC.out w5 E5) lb lc (by omega) (by omega)).mono ?_;rintro e w6 ⟨rfl,e6⟩;have E6:=E5.trans e6;have P6:=P5.ext e6;have Q6:=Q5.ext e6;have R6:=R5.ext e6;clear hq0 hq1 hq2 hq3 hq4 hr0 hr1 hr2 hr3 hr4 P5 Q5 R5 E5 e6;obtain⟨q,hq⟩:∃q,q=domC B C:=⟨_,rfl⟩;rw[←hq];have HQ:=Lib.hid hq;clear hq
 cases q with
 |false=>
  go_wp2_with fail;refine wpQ [PP.val (.agg #[.int .i64 a.1,.slice ax nx px,.bool bbx,.slice a1x n1x c1x,.slice a2x n2x c2x]),PP.val (.agg #[.int .i64 a.1,.slice ax nx px,.bool bbx,.slice a1x n1x c1x,.slice a2x n2x c2x]),PP.val (.bool da),PP.val (.pointer (some ⟨w.heap.size,0,none⟩)),PP.val (.int .i64 a.1),PP.val (.bool da),PP.val (.bool true),PP.val (.bool true)] [] [0,1,2,3,4,5,6,7] ?_ ?_
  ·refine⟨?_,?_,?_,?_,?_,?_,?_,?_,trivial⟩
   ·intro f wa hG hp hl;have hE:Ext w6 wa:=hG;change OpGoal _ _ _ f wa Ext _;exact og_load (P:=Tryz.prog) _ _ w.heap.size _ _ _ rfl rfl rfl (P6.ext hE) Tryz.underlying36 rfl (by kernel_rfl) rfl
   ·intro f wa hG hp hl;have hE:Ext w6 wa:=hG;change OpGoal _ _ _ f wa Ext _;exact og_load (P:=Tryz.prog) _ _ w.heap.size _ _ _ rfl rfl rfl (P6.ext hE) Tryz.underlying36 rfl (by kernel_rfl) rfl
   ·intro f wa hG hp hl;have hE:Ext w6 wa:=hG;have hS:=hE.size;have q30:=tE hp 0 0 rfl rfl rfl;have q31:=tE hp 1 1 rfl rfl rfl;change OpGoal _ _ _ f wa Ext _;refine oC #[f 0,f 1] Tryz.func28 rfl rfl ?_;rw[q30,q31];refine(dominates_calls 6 30 _ _ A A _ (FA.out _ (E6.trans hE)) (FA.out _ (E6.trans hE)) la la (by omega) (by omega)).mono ?_;rintro e w' ⟨rfl,h2⟩
    exact⟨_,rfl,h2,by rw[HD.out]<;>rfl⟩
   ·intro f wa hG hp hl;simp only[OpGoal];go_simp;exact⟨_,rfl,Ext.refl _,rfl⟩
   ·intro f wa hG hp hl;have hE:Ext w6 wa:=hG;have q33:=tE hp 0 3 rfl rfl rfl;have hcell:=(P6.ext hE).cell 0;simp only[OpGoal];go_simp;exact⟨_,rfl,Ext.refl _,rfl⟩
   ·intro f wa hG hp hl;have q34:=tE hp 0 4 rfl rfl rfl;change OpGoal _ _ _ f wa Ext _;refine oC #[f 4] Tryz.func33 rfl rfl ?_;rw[q34];refine(sense11_calls a.1 _).mono ?_;rintro e w' ⟨rfl,h2⟩
    exact⟨_,rfl,h2,by rw[HS.out]<;>rfl⟩
   ·intro f wa hG hp hl;have q32:=tE hp 0 2 rfl rfl rfl;have q35:=tE hp 1 5 rfl rfl rfl
    cases da<;>(simp only[OpGoal];go_simp;exact⟨_,rfl,Ext.refl _,rfl⟩)
   ·intro f wa hG hp hl;have q36:=tE hp 0 6 rfl rfl rfl;simp only[OpGoal];go_simp;exact⟨_,rfl,Ext.refl _,rfl⟩
  ·intro f wb hG hp;have hE:Ext w6 wb:=ChgS.nil hG
   have q6:f 7= .bool true:=endV hp 7 (by decide) rfl (fun h=>by cases h)
   try simp only[q6]
   clear hp;have X:=E6.trans hE;go_wp2;go_ret;exact⟨rfl,X⟩
 |true=>
 have hp0:=P6.cell 0;have hp1:=P6.cell 1;have hp2:=P6.cell 2;have hp3:=P6.cell 3;have hp4:=P6.cell 4;have hr0:=R6.cell 0;have hr1:=R6.cell 1;have hr2:=R6.cell 2;have hr3:=R6.cell 3;have hr4:=R6.cell 4;go_wp2_with fail;refine(dominates_calls 6 30 _ _ A C w6 (FA.out w6 E6) (FC.out w6 E6) la lc (by omega) (by omega)).mono ?_;rintro e w7 ⟨rfl,e7⟩;have E7:=E6.trans e7;have P7:=P6.ext e7;have Q7:=Q6.ext e7;clear hp0 hp1 hp2 hp3 hp4 hr0 hr1 hr2 hr3 hr4 P6 Q6 R6 E6 e7;obtain⟨r,hr⟩:∃r,r=domC A C:=⟨_,rfl⟩;rw[←hr];have HR:=Lib.hid hr;clear hr
 cases r with
 |true=>
  go_wp2_with fail;refine wpQ [PP.val (.agg #[.int .i64 a.1,.slice ax nx px,.bool bbx,.slice a1x n1x c1x,.slice a2x n2x c2x]),PP.val (.agg #[.int .i64 a.1,.slice ax nx px,.bool bbx,.slice a1x n1x c1x,.slice a2x n2x c2x]),PP.val (.bool da),PP.val (.pointer (some ⟨w.heap.size,0,none⟩)),PP.val (.int .i64 a.1),PP.val (.bool da),PP.val (.bool true),PP.val (.bool true)] [] [0,1,2,3,4,5,6,7] ?_ ?_
  ·refine⟨?_,?_,?_,?_,?_,?_,?_,?_,trivial⟩
   ·intro f wa hG hp hl;have hE:Ext w7 wa:=hG;change OpGoal _ _ _ f wa Ext _;exact og_load (P:=Tryz.prog) _ _ w.heap.size _ _ _ rfl rfl rfl (P7.ext hE) Tryz.underlying36 rfl (by kernel_rfl) rfl
   ·intro f wa hG hp hl;have hE:Ext w7 wa:=hG;change OpGoal _ _ _ f wa Ext _;exact og_load (P:=Tryz.prog) _ _ w.heap.size _ _ _ rfl rfl rfl (P7.ext hE) Tryz.underlying36 rfl (by kernel_rfl) rfl
   ·intro f wa hG hp hl;have hE:Ext w7 wa:=hG;have hS:=hE.size;have q30:=tE hp 0 0 rfl rfl rfl;have q31:=tE hp 1 1 rfl rfl rfl;change OpGoal _ _ _ f wa Ext _;refine oC #[f 0,f 1] Tryz.func28 rfl rfl ?_;rw[q30,q31];refine(dominates_calls 6 30 _ _ A A _ (FA.out _ (E7.trans hE)) (FA.out _ (E7.trans hE)) la la (by omega) (by omega)).mono ?_;rintro e w' ⟨rfl,h2⟩
    exact⟨_,rfl,h2,by rw[HD.out]<;>rfl⟩
   ·intro f wa hG hp hl;simp only[OpGoal];go_simp;exact⟨_,rfl,Ext.refl _,rfl⟩
   ·intro f wa hG hp hl;have hE:Ext w7 wa:=hG;have q33:=tE hp 0 3 rfl rfl rfl;have hcell:=(P7.ext hE).cell 0;simp only[OpGoal];go_simp;exact⟨_,rfl,Ext.refl _,rfl⟩
   ·intro f wa hG hp hl;have q34:=tE hp 0 4 rfl rfl rfl;change OpGoal _ _ _ f wa Ext _;refine oC #[f 4] Tryz.func33 rfl rfl ?_;rw[q34];refine(sense11_calls a.1 _).mono ?_;rintro e w' ⟨rfl,h2⟩
    exact⟨_,rfl,h2,by rw[HS.out]<;>rfl⟩
   ·intro f wa hG hp hl;have q32:=tE hp 0 2 rfl rfl rfl;have q35:=tE hp 1 5 rfl rfl rfl
    cases da<;>(simp only[OpGoal];go_simp;exact⟨_,rfl,Ext.refl _,rfl⟩)
   ·intro f wa hG hp hl;have q36:=tE hp 0 6 rfl rfl rfl;simp only[OpGoal];go_simp;exact⟨_,rfl,Ext.refl _,rfl⟩
  ·intro f wb hG hp;have hE:Ext w7 wb:=ChgS.nil hG
   have q6:f 7= .bool true:=endV hp 7 (by decide) rfl (fun h=>by cases h)
   try simp only[q6]
   clear hp;have X:=E7.trans hE;go_wp2;go_ret;exact⟨rfl,X⟩
 |false=>
 have HF:Hid (falseC B=true):=Lib.hid (by
  cases h:falseC B
  ·have:=dom_trans HP.out.symm HQ.out.symm h
   rw[←HR.out]at this
   cases this
  ·rfl)
 have hq0:=Q7.cell 0;have hq1:=Q7.cell 1;have hq2:=Q7.cell 2;have hq3:=Q7.cell 3;have hq4:=Q7.cell 4;go_wp2_with fail;refine(false11_calls 6 _ B w7 (FB.out w7 E7) (by omega) (by omega)).mono ?_;rintro e w8 ⟨rfl,e8⟩;go_wp2;go_ret
 exact⟨by rw[HF.out]<;>rfl,E7.trans e8⟩
theorem combV_len{C:List CR}{Q:List Rat}{s:Int}(h:∀c∈C,c.2.1.length≤30)(hC:C.length≤12):(combV C Q s).2.1.length≤360:=by
 have h1:=catN_len (ys:=Q) (rows:=termsC C) (N:=30) (by
  intro r hr;obtain⟨c,hc,rfl⟩:=List.mem_map.1 hr
  exact h c hc) C.length
 have h2:=mkV_len (catN Q (termsC C) C.length)
 show(mkV (catN Q (termsC C) C.length)).length≤360
 omega
set_option maxHeartbeats 16000000 in
theorem consFollows_calls(v u t:Value)(cl:List CE)(ql xl:List RE)(w:World)(hv:CLE w v cl)(hb:cl.length≤281474976710656)(hu:SLQ w u ql)(ht:SLQ w t xl):
  Calls Tryz.prog 7 #[v,u,t] w fun e w'=>e= .returned (.bool true)∧Ext w w':=by
 have HV:=Lib.hid hv;have HU:=Lib.hid hu;have HT:=Lib.hid ht
 have lim:(100000:Nat)≤LIM:=by rw[LIM_eq];omega
 have hz:(1:Int)≤1:=by omega
 obtain⟨ad,n,cap,hnl,rfl,hn1,hat⟩:=hv.at;have HN:=Lib.hid hnl;have HAT:=Lib.hid hat;clear hnl hat hu ht hv
 go_enter Tryz.func7,Tryz.ntmps7
 go_wp2_with fail;refine(speaksc_calls _).mono ?_;rintro e w2 ⟨rfl,e2⟩;go_wp2_with fail;refine(greatC_calls _ cl w2 (HV.out.ext e2) hb).mono ?_;rintro e w3 ⟨rfl,e3⟩;obtain⟨p,hp⟩:∃p,p=greatC cl:=⟨_,rfl⟩;rw[←hp];have HP:=Lib.hid hp;clear hp;have E3:=e2.trans e3
 cases p with
 |true=>
  go_wp2;go_ret;exact⟨rfl,E3⟩
 |false=>
 go_wp2_with fail;refine(greatAll_calls _ ql w3 (HU.out.ext E3)).mono ?_;rintro e w4 ⟨rfl,e4⟩;obtain⟨q,hq⟩:∃q,q=greatE ql:=⟨_,rfl⟩;rw[←hq];have HQ:=Lib.hid hq;clear hq;have E4:=E3.trans e4
 cases q with
 |true=>
  go_wp2;go_ret;exact⟨rfl,E4⟩
 |false=>
 go_wp2_with fail;refine(greatAll_calls _ xl w4 (HT.out.ext E4)).mono ?_;rintro e w5 ⟨rfl,e5⟩;obtain⟨r,hr⟩:∃r,r=greatE xl:=⟨_,rfl⟩;rw[←hr];have HR:=Lib.hid hr;clear hr;have E5:=E4.trans e5
 cases r with
 |true=>
  go_wp2;go_ret;exact⟨rfl,E5⟩
 |false=>
 obtain⟨m1,m2⟩:=greatC_not HP.out.symm;obtain⟨x1,x2⟩:=greatE_not HQ.out.symm;obtain⟨y1,y2⟩:=greatE_not HR.out.symm;obtain⟨C,hC⟩:∃C,C=cl.map ratC:=⟨_,rfl⟩;obtain⟨Q,hQ⟩:∃Q,Q=ql.map ratE:=⟨_,rfl⟩;obtain⟨X,hX⟩:∃X,X=xl.map ratE:=⟨_,rfl⟩
 have hCl:C.length≤12:=by rw[hC,List.length_map];exact m1
 have hXl:X.length≤30:=by rw[hX,List.length_map];omega
 have HCL:=Lib.hid (show∀c∈C,c.2.1.length≤30 by rw[hC];intro r hr;obtain⟨c,hc,rfl⟩:=List.mem_map.1 hr;unfold ratC ratT;rw[List.length_map];exact(m2 c hc).1);have TC:=Lib.hid (show∀(w':World),Ext w w'→CL 6 w' (.slice ad n cap) C from fun w' h=>by rw[hC];exact(HV.out.ext h).cl 6 (by omega) (by omega) fun c hc=>(m2 c hc).2);have TQ:=Lib.hid (show∀(w':World),Ext w w'→QL 6 w' u Q from fun w' h=>by rw[hQ];exact(HU.out.ext h).ql 6 (by omega) (by omega) x2);have TX:=Lib.hid (show∀(w':World),Ext w w'→QL 6 w' t X from fun w' h=>by rw[hX];exact(HT.out.ext h).ql 6 (by omega) (by omega) y2);have HCR:=Lib.hid (show∀c∈cl,(ratC c).2.1.length≤30∧∀(w':World) (v':Value),CnE w' v' c→CnR 6 w' v' (ratC c)from fun c hc=>⟨(great_in HP.out.symm hc).1.2,fun w' v' h=>(great_in HP.out.symm hc).2.2 h⟩);have HC:=Lib.hid hC;clear m1 m2 x1 x2 y1 y2 hC hQ hX HP HQ HR e2 e3 e4 e5 E3 E4;go_wp2_with fail
 go_loopw [26] (fun s26 wr=>∃(i:Nat),i≤n∧s26= .int .i64 (i:Int)∧Hid (∀c∈cl.take i,holdsC (ratC c) X=true)∧Ext w wr) (fun s26 _=>((n:Int) - intOf s26).toNat)
 case atStart=>exact ⟨0,Nat.zero_le _,rfl,Lib.hid (fun c hc=>by simp at hc),E5⟩
 case round=>
  obtain⟨i,hi,rfl,hS,hE0⟩:=hrel
  rcases Nat.eq_or_lt_of_le hi with hin |hin
  ·subst hin
   have hlt:¬((i:Int)<(i:Int)):=by omega
   have HALL:Hid (∀c∈C,holdsC c X=true):=Lib.hid (by
    intro r hr;rw[HC.out]at hr;obtain⟨c,hc,rfl⟩:=List.mem_map.1 hr;refine hS.out c ?_;rw[HN.out,List.take_length]
    exact hc)
   clear hS HCR HC HAT;go_wp2_with fail
   go_loopw [9] (fun s9 wr=>∃(j:Nat),1≤j∧j≤4∧s9= .int .i64 (j:Int)∧Ext w wr) (fun s9 _=>((4:Int) - intOf s9).toNat)
   case atStart=>exact ⟨1,by omega,by omega,rfl,hE0⟩
   case round=>
    obtain⟨j,hj1,hj4,rfl,hE1⟩:=hrel
    rcases Nat.eq_or_lt_of_le hj4 with hjn |hjn
    ·have hlt2:¬((j:Int)<(4:Int)):=by omega
     go_wp2;go_ret;exact⟨rfl,hE1⟩
    ·have hlt2:(j:Int)<(4:Int):=by omega
     obtain⟨j1,hj⟩:∃j1,j1=j+1:=⟨_,rfl⟩
     have hj':(j:Int)+1=(j1:Int):=by omega
     have HJ:=Lib.hid hj;clear hj;go_wp2_with fail;refine(combine_calls 6 6 30 12 4681 157 _ _ C Q (j:Int) _ (TC.out _ hE1) (TQ.out _ hE1) HCL.out hCl (by omega) (by omega) (by omega) (by omega) (by omega) (by omega)).mono ?_;rintro e w7 ⟨v7,rfl,e7,hok,hno⟩;have E7:=hE1.trans e7;obtain⟨cd,hcd⟩:∃cd,cd=combE C Q (j:Int):=⟨_,rfl⟩;rw[←hcd]at hok hno ⊢;have HCD:=Lib.hid hcd;clear hcd
     by_cases h0:cd=0
     ·have ho:=hok h0;subst h0;have CA:=Lib.hid ho;obtain⟨a8,n8,p8,b8,a18,n18,c18,a28,n28,c28,rfl, -⟩:=ho;obtain⟨w8,hw8,e8,B8,s8⟩:=alloc1 w7 #[.int .i64 (combV C Q (j:Int)).1,.slice a8 n8 p8,.bool b8,.slice a18 n18 c18,.slice a28 n28 c28] 36;have E8:=E7.trans e8;clear hok hno;go_wp2_with fail;rw[←hw8];refine(holds_calls 4681 6 _ _ (combV C Q (j:Int)) X w8 ((CA.out.cnR (by omega)).ext e8) (TX.out _ E8) (by have:=combV_len (Q:=Q) (s:=(j:Int)) HCL.out hCl;omega)).mono ?_;rintro e w9 ⟨rfl,e9⟩;have E9:=E8.trans e9;have B9:=B8.ext e9
      have hh:holdsC (combV C Q (j:Int)) X=true:=comb_holds HCD.out.symm HALL.out
      have HF:Hid (falseC (combV C Q (j:Int))=false):=Lib.hid (holds_not_false hh)
      rw[hh];clear hh hw8 B8;have hp0:=B9.cell 0;have hp1:=B9.cell 1;have hp2:=B9.cell 2;have hp3:=B9.cell 3;have hp4:=B9.cell 4;go_wp2_with fail;refine(cfalse_calls 4681 _ (combV C Q (j:Int)) w9 ((CA.out.cnR (by omega)).ext (e8.trans e9)) (by have:=combV_len (Q:=Q) (s:=(j:Int)) HCL.out hCl;omega) (by have:=combV_len (Q:=Q) (s:=(j:Int)) HCL.out hCl;omega)).mono ?_;rintro e w10 ⟨rfl,e10⟩;have E10:=E9.trans e10;rw[HF.out];clear hp0 hp1 hp2 hp3 hp4 B9;go_wp2;go_roundw
      case rel=>exact ⟨j1,by have:=HJ.out;omega,by have:=HJ.out;omega,rfl,E10⟩
      case measure=>have:=HJ.out;simp[intOf];omega
     ·have hz:=hno h0;subst hz
      have hz0:(cd==0)=false:=by simpa using h0
      unfold zeroC;clear hok hno h0;obtain⟨w8,hw8,e8,B8,s8⟩:=alloc1 w7 #[.int .i64 0,.slice none 0 0,.bool false,.slice none 0 0,.slice none 0 0] 36;have E8:=E7.trans e8;go_wp2;go_roundw
      case rel=>exact ⟨j1,by have:=HJ.out;omega,by have:=HJ.out;omega,rfl,by rw[←hw8];exact E8⟩
      case measure=>have:=HJ.out;simp[intOf];omega
  ·have hlt:(i:Int)<(n:Int):=by omega
   obtain⟨c,hx⟩:∃x,cl[i]? =some x:=⟨_,List.getElem?_eq_getElem (by rw[←HN.out];exact hin)⟩;obtain⟨g,off,rfl,ay,ny,py,bby,a1y,n1y,c1y,a2y,n2y,c2y, -, -,hcell,hTL,hRX⟩:=HAT.out i _ hx;obtain⟨hc0,hc1,hc2,hc3,hc4⟩:=hcell wr hE0;obtain⟨hcl,hcr⟩:=HCR.out c (List.mem_of_getElem? hx);have HCE:=Lib.hid (show∀(w':World),Ext w w'→CnR 6 w' (.agg #[.int .i64 c.1,.slice ay ny py,.bool bby,.slice a1y n1y c1y,.slice a2y n2y c2y]) (ratC c)from fun w' h=>hcr w' _ ⟨_,_,_,_,_,_,_,_,_,_,rfl,hTL.ext h,hRX.ext h⟩);have HXX:=Lib.hid (take_next hx);clear hcell hx hTL hRX hcr;obtain⟨wa,hwa,ea,Ba,sa⟩:=alloc1 wr #[.int .i64 c.1,.slice ay ny py,.bool bby,.slice a1y n1y c1y,.slice a2y n2y c2y] 36;have Ea:=hE0.trans ea;go_wp2_with fail;rw[←hwa];refine(holds11_calls 6 _ _ (ratC c) X wa (HCE.out _ Ea) (TX.out _ Ea) (by omega) (by omega) (by omega)).mono ?_;rintro e wb ⟨rfl,eb⟩;have Eb:=Ea.trans eb;obtain⟨p,hp⟩:∃p,p=holdsC (ratC c) X:=⟨_,rfl⟩;rw[←hp];have HP:=Lib.hid hp;clear hp hwa Ba hc0 hc1 hc2 hc3 hc4
   cases p with
   |false=>
    go_wp2;go_ret;exact⟨rfl,Eb⟩
   |true=>
    go_wp2;go_roundw
    case rel=>
     exact⟨i+1,by omega,congrArg (Value.int .i64) (by omega),Lib.hid (by
      intro c' hc';rw[HXX.out,List.mem_append]at hc'
      rcases hc' with h |h
      ·exact hS.out c' h
      ·rw[List.mem_singleton]at h;rw[h]
       exact HP.out.symm),Eb⟩
    case measure=>simp [intOf];omega
def ZChg(S:Nat)(T:List (TypeId×Array Value))(w1 w2:World):Prop:=∃g t old cs,S≤g∧(t,old)∈T∧Bx t w1 g old∧Bx t w2 g cs∧Chg g w1 w2
structure PZ (S:Nat) (T:List (TypeId×Array Value)) where
 p:Value→World→Prop
 m:∀v w1 w2,Ext w1 w2→p v w1→p v w2
 m3:∀v w1 w2,ZChg S T w1 w2→p v w1→p v w2
def PZ.val{S:Nat}{T:List (TypeId×Array Value)}(v:Value):PZ S T:=⟨fun u _=>u=v,fun _ _ _ _ h=>h,fun _ _ _ _ h=>h⟩
def PZ.any{S:Nat}{T:List (TypeId×Array Value)}:PZ S T:=⟨fun _ _=>True,fun _ _ _ _ h=>h,fun _ _ _ _ h=>h⟩
def TZ(als:List Al):List (TypeId×Array Value):=als.map fun x=>(x.t,x.z)
structure Sz (S:Nat) (T:List (TypeId×Array Value)) where
 s:Nat
 x:Al
 F:PZ S T
def szAt{S:Nat}{T:List (TypeId×Array Value)}:List (Sz S T)→Nat→Option (Sz S T)
 | [],_=>none
 |x::l,k=>if k=x.s then some x else szAt l k
theorem szAt_mem{S:Nat}{T:List (TypeId×Array Value)}{l:List (Sz S T)}{k:Nat}{x:Sz S T}(h:szAt l k=some x):x∈l∧x.s=k:=by
 induction l with
 |nil=>cases h
 |cons y l ih=>
  simp only[szAt]at h
  split at h
  ·cases h;exact⟨List.mem_cons_self ..,by omega⟩
  ·exact⟨List.mem_cons_of_mem _ (ih h).1,(ih h).2⟩
structure JZ {S:Nat} {T:List (TypeId×Array Value)} (als:List Al) (sas:List (Sz S T)) (listed:Nat→Bool) (f:Nat→Value) (w:World):Prop where
 made:∀x∈als,listed x.a=true→∃g cs,f x.a= .pointer (some ⟨g,0,none⟩)∧S≤g∧Bx x.t w g cs∧cs.size=x.n∧((∀y∈sas,y.x.a=x.a→listed y.s=false)→cs=x.z)
 apart:∀x∈als,∀y∈als,x.a≠y.a→listed x.a=true→listed y.a=true→f x.a≠f y.a
 put:∀y∈sas,listed y.s=true→listed y.x.a=true∧∃g cs,f y.x.a= .pointer (some ⟨g,0,none⟩)∧Bx y.x.t w g cs∧y.F.p (.agg cs) w
def postZ{S:Nat}{T:List (TypeId×Array Value)}(als:List Al)(sas:List (Sz S T))(L:List (PZ S T))(j:Nat)(v:Value)(w:World):Prop:=alAt als j=none→szAt sas j=none→(L.getD j PZ.any).p v w
def OweZ{S:Nat}{T:List (TypeId×Array Value)}(P:Program)(fr:(Nat→Value)→Array Value)(df:List Deferred)(w:World)(als:List Al)(sas:List (Sz S T))(L:List (PZ S T))(k:Nat)(o:Oper):Prop:=
 ∀f w1,Ext w w1→PostsOf (postZ als sas L) f w1 o.after.toList→
  match alAt als k with
  |some x=>OpGoal P o ⟨fr f,df⟩ f w1 (fun a b=>b=a.alloc (.cells x.z x.t)) (fun v _=>v= .pointer (some ⟨w1.heap.size,0,none⟩))
  |none=>match szAt sas k with
   |some y=>∀g,f y.x.a= .pointer (some ⟨g,0,none⟩)→S≤g→Bx y.x.t w1 g y.x.z→
     OpGoal P o ⟨fr f,df⟩ f w1 (Chg g) (fun _ w2=>∃cs,Bx y.x.t w2 g cs∧cs.size=y.x.n∧y.F.p (.agg cs) w2)
   |none=>OpGoal P o ⟨fr f,df⟩ f w1 Ext (L.getD k PZ.any).p
def OwesZ{S:Nat}{T:List (TypeId×Array Value)}(P:Program)(fr:(Nat→Value)→Array Value)(df:List Deferred)(w:World)(als:List Al)(sas:List (Sz S T))(L:List (PZ S T)):List Oper→Nat→Prop
 | [],_=>True
 |o::l,k=>OweZ P fr df w als sas L k o∧OwesZ P fr df w als sas L l (k+1)
theorem owesZ_at{S:Nat}{T:List (TypeId×Array Value)}{P:Program}{fr:(Nat→Value)→Array Value}{df:List Deferred}{w:World}{als:List Al}{sas:List (Sz S T)}{L:List (PZ S T)}:
  ∀(l:List Oper) (k:Nat),OwesZ P fr df w als sas L l k→∀i o,l[i]? =some o→OweZ P fr df w als sas L (k+i) o
 | [],_,_,i,o,h=>by simp at h
 |x::l,k,hs,i,o,h=>by
  cases i with
  |zero=>
   simp only[List.getElem?_cons_zero,Option.some.injEq]at h;subst h;exact hs.1
  |succ i=>
   have:=owesZ_at l (k+1) hs.2 i o (by simpa using h)
   rwa [show k+1+i=k+(i+1)by omega]at this
theorem tellZ{S:Nat}{T:List (TypeId×Array Value)}{w1:World}{als:List Al}{sas:List (Sz S T)}{L:List (PZ S T)}{f:Nat→Value}{l:List Edge}(hp:PostsOf (postZ als sas L) f w1 l)(n j:Nat)
  (h:(match l[n]? with |some e=>Region.binds .any e&&e.on==j |none=>false)=true) (ha:alAt als j=none) (hs:szAt sas j=none):(L.getD j PZ.any).p (f j) w1:=
 postsOf_nth l n j h hp ha hs
theorem endZ{S:Nat}{T:List (TypeId×Array Value)}{w1:World}{als:List Al}{sas:List (Sz S T)}{L:List (PZ S T)}{f:Nat→Value}{n:Nat}(hp:AllPosts (postZ als sas L) f w1 n 0)(j:Nat)(hk:j<n)(ha:alAt als j=none)(hs:szAt sas j=none):(L.getD j PZ.any).p (f j) w1:=
 allPosts_nth n 0 j (Nat.zero_le _) (by omega) hp ha hs
theorem wp_region_alz{P:Program}{id:Nat}{l:List Oper}{Q:Exit→Act→World→Prop}{tmps:Array Value}{df:List Deferred}{w:World}{fr:(Nat→Value)→Array Value}
  (als:List Al) (sas:List (Sz w.heap.size (TZ als))) (L:List (PZ w.heap.size (TZ als)))
  (hm:P.follows .mixedOrders=true) (hok:(regOk l.toArray tmps.size&&sas.all fun y=>ancOk l.toArray [y.s] [y.x.a]&&y.s !=y.x.a)=true)
  (hfr:∀f,fillR l.toArray tmps f=fr f)
  (hal:∀x∈als,alAt als x.a=some x∧szAt sas x.a=none∧x.z.size=x.n)
  (hsa:∀y∈sas,szAt sas y.s=some y∧alAt als y.s=none∧y.x∈als) (hsa2:∀y∈sas,∀z∈sas,y.s≠z.s→y.x.a≠z.x.a)
  (hstep:OwesZ P fr df w als sas L l 0)
  (hend:∀f w1,Ext w w1→AllPosts (postZ als sas L) f w1 l.length 0→
   (∀x∈als,x.a<l.length→∃g cs,f x.a= .pointer (some ⟨g,0,none⟩)∧w.heap.size≤g∧Bx x.t w1 g cs∧cs.size=x.n∧∀y∈sas,y.s<l.length→y.x.a=x.a→y.x.t=x.t→y.F.p (.agg cs) w1)→Q .normal ⟨fr f,df⟩ w1):
  (Code.region id l.toArray true).wp P Q ⟨tmps,df⟩ w:=by
 simp only[Bool.and_eq_true]at hok;obtain⟨hok1,hok2⟩:=hok
 let R:Nat→World→World→Prop:=fun i w1 w2=>if (alAt als i).isSome=true∨(szAt sas i).isSome=false then Ext w1 w2 else ZChg w.heap.size (TZ als) w1 w2
 have zchgExt:∀{w1 w2:World},Ext w w1→ZChg w.heap.size (TZ als) w1 w2→Ext w w2:=by
  rintro w1 w2 h ⟨g,t,cs,cs',hg,_,_,_,hch⟩;exact h.step hch hg
 refine wp_region_posts (D:=JZ als sas) (G:=Ext) (G0:=fun _ _ _=>True) (R:=R) (post:=postZ als sas L) hm hok1 ?_ (Ext.refl w).drew (fun _=>trivial) ?_ (fun _ _ _ _ _ _ _=>trivial) ?_ ?_ ?_
 ·intro f;exact⟨fun x hx h=>(by cases h),fun x hx y hy hne h=>(by cases h),fun y hy h=>(by cases h)⟩
 ·intro i w1 w2 hG hR
  by_cases hc:(alAt als i).isSome=true∨(szAt sas i).isSome=false
  ·simp only[R,hc,if_true]at hR;exact hG.trans hR
  ·simp only[R,hc,if_false]at hR;exact zchgExt hG hR
 ·intro i j v w1 w2 hij hG hR hp ha hs
  by_cases hc:(alAt als j).isSome=true∨(szAt sas j).isSome=false
  ·simp only[R,hc,if_true]at hR;exact(L.getD i PZ.any).m _ _ _ hR (hp ha hs)
  ·simp only[R,hc,if_false]at hR;exact(L.getD i PZ.any).m3 _ _ _ hR (hp ha hs)
 ·intro i o ho listed f w1 hil hbef hD hG _ hp _;have hO:=owesZ_at l 0 hstep i o (by simpa using ho);rw[Nat.zero_add]at hO;rw[hfr]
  have unl:∀j,(if j=i then true else listed j)=false→listed j=false:=fun j h=>by
   by_cases hj:j=i
   ·rw[if_pos hj]at h;cases h
   ·rwa [if_neg hj]at h
  have hg:=hO f w1 hG (postsOf_of _ fun e he hb=>hp e (Array.mem_toList_iff.1 he) hb);clear hO
  cases ha:alAt als i with
  |some x=>
   simp only[ha]at hg;have hxm:=(alAt_mem ha).1;have hxa:=(alAt_mem ha).2;have hxl:=hal x hxm;refine OpGoal.mono2 ?_ (fun h=>by cases h) hg;rintro v w' rfl rfl;have hext:Ext w1 (w1.alloc (.cells x.z x.t)):=(Ext.refl w1).alloc _;refine⟨by simp only[R,ha,Option.isSome_some,true_or,if_true];exact hext,fun h=>by simp[ha]at h,?_,?_,?_⟩
   ·intro x' hx' hl'
    by_cases hi:x'.a=i
    ·have:x'=x:=by
      have h1:=(hal x' hx').1;rw[hi,ha]at h1;exact(Option.some.inj h1).symm
     subst this;exact⟨w1.heap.size,x'.z,by simp[hi],hG.size,Bx.new w1 x'.t x'.z,hxl.2.2,fun _=>rfl⟩
    ·simp only[hi,if_false]at hl' ⊢;obtain⟨g,cs,h1,h2,h3,h4,h5⟩:=hD.made x' hx' hl';exact⟨g,cs,h1,h2,h3.ext hext,h4,fun hn=>h5 fun y hy hyx=>unl _ (hn y hy hyx)⟩
   ·intro x' hx' y' hy' hne hlx hly
    have old:∀z∈als,z.a≠i→listed z.a=true→f z.a≠ .pointer (some ⟨w1.heap.size,0,none⟩):=by
     intro z hz hzi hlz h;obtain⟨g,cs,h1,h2,h3,h4⟩:=hD.made z hz hlz;rw[h1]at h
     have:=h3.lt
     simp only[Value.pointer.injEq,Option.some.injEq,Addr.mk.injEq,and_true]at h
     omega
    by_cases h1:x'.a=i
    ·have h2:y'.a≠i:=by omega
     simp only[h1,h2,if_true,if_false]at hlx hly ⊢
     exact fun h=>old y' hy' h2 hly h.symm
    ·by_cases h2:y'.a=i
     ·simp only[h1,h2,if_true,if_false]at hlx hly ⊢;exact old x' hx' h1 hlx
     ·simp only[h1,h2,if_false]at hlx hly ⊢;exact hD.apart x' hx' y' hy' hne hlx hly
   ·intro y hy hly
    have hyi:y.s≠i:=by
     intro e
     have:=(hsa y hy).1
     rw[e,←hxa,hxl.2.1]at this
     cases this
    simp only[hyi,if_false]at hly ⊢;obtain⟨hla,g,cs,h1,h2,h3⟩:=hD.put y hy hly
    have hai:y.x.a≠i:=by intro e;rw[e,hil]at hla;cases hla
    simp only[hai,if_false];exact⟨hla,g,cs,h1,h2.ext hext,y.F.m _ _ _ hext h3⟩
  |none=>
   have nota:∀x∈als,x.a≠i:=by
    intro x hx e
    have:=(hal x hx).1
    rw[e,ha]at this
    cases this
   simp only[ha]at hg
   cases hs:szAt sas i with
   |some y=>
    simp only[hs]at hg;have hym:=(szAt_mem hs).1;have hys:=(szAt_mem hs).2;have hyl:=hsa y hym;have hcheck:=List.all_eq_true.1 hok2 y hym;simp only[Bool.and_eq_true]at hcheck
    have hla:listed y.x.a=true:=by
     refine hbef y.x.a (anc_of _ [y.s] (fun j hj=> ?_) hcheck.1 _ (List.mem_singleton.2 rfl)) (nota y.x hyl.2.2)
     have:j=y.s:=by simpa using hj
     rw[this,hys];exact .self
    obtain⟨g,old,h1,h2,h3,h4,h5⟩:=hD.made y.x hyl.2.2 hla
    have hold:old=y.x.z:=h5 fun y' hy' hya=>by
     by_cases he:y'.s=y.s
     ·rw[he,hys];exact hil
     ·exact absurd hya (hsa2 y' hy' y hym he)
    subst hold;have hxl:=hal y.x hyl.2.2
    have key:∀(v:Value) (w':World),Chg g w1 w'→(∃cs,Bx y.x.t w' g cs∧cs.size=y.x.n∧y.F.p (.agg cs) w')→ZChg w.heap.size (TZ als) w1 w'∧JZ als sas (fun j=>if j=i then true else listed j) (fun j=>if j=i then v else f j) w':=by
     rintro v w' hch ⟨cs,k1,k2,k4⟩;have hsc:ZChg w.heap.size (TZ als) w1 w':=⟨g,y.x.t,y.x.z,cs,h2,List.mem_map.2 ⟨y.x,hyl.2.2,rfl⟩,h3,k1,hch⟩;refine⟨hsc,?_,?_,?_⟩
     ·intro x' hx' hl';simp only[nota x' hx',if_false]at hl' ⊢;obtain⟨g',cs',m1,m2,m3,m4,m5⟩:=hD.made x' hx' hl'
      by_cases he:x'.a=y.x.a
      ·have:x'=y.x:=by
        have q1:=(hal x' hx').1;rw[he,hxl.1]at q1;exact(Option.some.inj q1).symm
       subst this;exact⟨g,cs,h1,h2,k1,k2,fun hn=>by have:=hn y hym rfl;simp[hys]at this⟩
      ·have hne:=hD.apart x' hx' y.x hyl.2.2 he hl' hla
       have:g'≠g:=by
        rintro rfl;exact hne (by rw[m1,h1])
       exact⟨g',cs',m1,m2,m3.chg hch this,m4,fun hn=>m5 fun y hy hyx=>unl _ (hn y hy hyx)⟩
     ·intro x' hx' y' hy' hne hlx hly;simp only[nota x' hx',nota y' hy',if_false]at hlx hly ⊢;exact hD.apart x' hx' y' hy' hne hlx hly
     ·intro z hz hlz;simp only[nota z.x (hsa z hz).2.2,if_false]
      by_cases hzi:z.s=i
      ·have:z=y:=by
        have q1:=(hsa z hz).1;rw[hzi,hs]at q1;exact(Option.some.inj q1).symm
       subst this;exact⟨hla,g,cs,h1,k1,k4⟩
      ·simp only[hzi,if_false]at hlz;obtain⟨hlz2,g',cs',m1,m2,m3⟩:=hD.put z hz hlz;have hne:=hD.apart z.x (hsa z hz).2.2 y.x hyl.2.2 (hsa2 z hz y hym (by omega)) hlz2 hla
       have:g'≠g:=by
        rintro rfl;exact hne (by rw[m1,h1])
       exact⟨hlz2,g',cs',m1,m2.chg hch this,z.F.m3 _ _ _ hsc m3⟩
    refine OpGoal.mono2 (fun v w' hch hk=> ?_) (fun h=>⟨fun _ h=>by simp[hs]at h,(key undef w1 (Chg.refl g w1) h).2⟩) (hg g h1 h2 h3);have hk2:=key v w' hch hk;exact⟨by simp only[R,ha,hs,Option.isSome_none,Option.isSome_some,Bool.false_eq_true,false_or,reduceCtorEq,if_false];exact hk2.1,fun _ h=>by simp[hs]at h,hk2.2⟩
   |none=>
    simp only[hs]at hg
    have key:∀v w',Ext w1 w'→JZ als sas (fun j=>if j=i then true else listed j) (fun j=>if j=i then v else f j) w':=by
     intro v w' hext;refine⟨?_,?_,?_⟩
     ·intro x' hx' hl';simp only[nota x' hx',if_false]at hl' ⊢;obtain⟨g',cs',m1,m2,m3,m4,m5⟩:=hD.made x' hx' hl';exact⟨g',cs',m1,m2,m3.ext hext,m4,fun hn=>m5 fun y hy hyx=>unl _ (hn y hy hyx)⟩
     ·intro x' hx' y' hy' hne hlx hly;simp only[nota x' hx',nota y' hy',if_false]at hlx hly ⊢;exact hD.apart x' hx' y' hy' hne hlx hly
     ·intro z hz hlz;simp only[nota z.x (hsa z hz).2.2,if_false]
      have hzi:z.s≠i:=by
       intro e
       have:=(hsa z hz).1
       rw[e,hs]at this
       cases this
      simp only[hzi,if_false]at hlz;obtain⟨hlz2,g',cs',m1,m2,m3⟩:=hD.put z hz hlz;exact⟨hlz2,g',cs',m1,m2.ext hext,z.F.m _ _ _ hext m3⟩
    refine OpGoal.mono2 (fun v w' hext hpv=>⟨by simp only[R,ha,hs,Option.isSome_none,or_true,if_true];exact hext,fun _ _=>hpv,key v w' hext⟩) (fun h=>⟨fun _ _=>h,key undef w1 (Ext.refl w1)⟩) hg
 ·intro f w1 hG hp hj;obtain⟨listed,hall,hD⟩:=hj;rw[hfr]
  refine hend f w1 hG (allPosts_of _ _ fun i _ hi=>hp i (by simpa using hi)) fun x hx hlt=> ?_
  obtain⟨g,cs,m1,m2,m3,m4,_⟩:=hD.made x hx (hall _ (by simpa using hlt));refine⟨g,cs,m1,m2,m3,m4,fun y hy hys hya hyt=> ?_⟩;obtain⟨_,g',cs',n1,n2,n3⟩:=hD.put y hy (hall _ (by simpa using hys));rw[hya,m1]at n1;simp only[Value.pointer.injEq,Option.some.injEq,Addr.mk.injEq,and_true]at n1;subst n1;unfold Bx at n2 m3;rw[hyt,m3]at n2;simp only[Option.some.injEq,Obj.cells.injEq,and_true]at n2;subst n2;exact n3
theorem og_storeZ{P:Program}{o:Oper}{a:Act}{f:Nat→Value}{w:World}{S:Nat}{T:List (TypeId×Array Value)}(F:PZ S T)(n:Nat)(ty:TypeId)(x y:Operand)(g:Nat)(t:TypeId)(old cells:Array Value)(hgd:o.guard=none)(ho:o.op= .store ty x y)(hx:a.eval x= .pointer (some ⟨g,0,none⟩))(hy:a.eval y= .agg cells)
  (hg:Bx t w g old) (hi:(P.info? ty).map (·.size)=some cells.size) (hold:old.size=n) (hn:cells.size=n) (h1:cells.all (·.oneCell')=true) (hSg:S≤g) (hT:(t,old)∈T) (q:F.p (.agg cells) w):
  OpGoal P o a f w (Chg g) (fun _ w2=>∃cs,Bx t w2 g cs∧cs.size=n∧F.p (.agg cs) w2):=by
 unfold OpGoal;rw[hgd];refine wp_store_row ty x y ho g cells hx hy t old hg hi (by omega) h1 ⟨_,rfl,Chg.setRow w g cells,cells,hg.setRow cells,hn,?_⟩;exact F.m3 _ _ _ ⟨g,t,old,cells,hSg,hT,hg,hg.setRow cells,Chg.setRow w g cells⟩ q
theorem Bx.zchg{S g:Nat}{T:List (TypeId×Array Value)}{t:TypeId}{cs:Array Value}{w1 w2:World}(h:Bx t w1 g cs)(hc:ZChg S T w1 w2)(hn:(t,cs)∉T):Bx t w2 g cs:=by
 obtain⟨g',t',old,cs',_,hT,hb,_,hch⟩:=hc;refine h.chg hch ?_;rintro rfl;unfold Bx at h hb;rw[h]at hb;simp only[Option.some.injEq,Obj.cells.injEq,and_true]at hb;exact hn (by rw[hb.1,hb.2];exact hT)
def TCn(T:List (TypeId×Array Value)):Prop:=∀x∈T,x.1=36
theorem ZChg.cn{S:Nat}{T:List (TypeId×Array Value)}{w1 w2:World}(h:ZChg S T w1 w2)(hT:TCn T):∃g cs,S≤g∧Bx 36 w1 g cs∧Chg g w1 w2:=by
 obtain⟨g,t,old,cs,h1,h2,h3, -,h5⟩:=h
 have:=hT _ h2
 simp only at this
 subst this;exact⟨g,old,h1,h3,h5⟩
def PZ.frQ{S:Nat}{T:List (TypeId×Array Value)}(hT:TCn T)(q:Rat):PZ S T:=⟨fun u w=>FrQ S w u q,fun _ _ _ h hp=>hp.ext h,fun _ _ _ h hp=>(let ⟨_,_,_,h2,h3⟩:=h.cn hT;hp.chgB h3 h2 (by decide))⟩
theorem CnO.chgB{B k g:Nat}{w w':World}{v:Value}{c:CR}{cs:Array Value}(h:CnO B k w v c)(hc:Chg g w w')(hb:Bx 36 w g cs):CnO B k w' v c:=by
 obtain⟨a,n,cp,b,a1,n1,c1,a2,n2,c2,h1,h2,h3,h4⟩:=h;exact⟨a,n,cp,b,a1,n1,c1,a2,n2,c2,h1,h2.chgB hc hb (by decide) (by decide),h3.chgB hc hb (by decide),h4⟩
def PZ.cnO{S:Nat}{T:List (TypeId×Array Value)}(hT:TCn T)(k:Nat)(c:CR):PZ S T:=⟨fun u w=>CnO S k w u c,fun _ _ _ h hp=>hp.ext h,fun _ _ _ h hp=>(let ⟨_,_,_,h2,h3⟩:=h.cn hT;hp.chgB h3 h2)⟩
theorem CnO.partsz{B k:Nat}{w:World}{v:Value}{c:CR}(h:CnO B k w v c):∃cells,v= .agg cells∧cells.size=5∧cells.all (·.oneCell')=true:=by
 obtain⟨a,n,cp,b,a1,n1,c1,a2,n2,c2,rfl, -⟩:=h;exact⟨_,rfl,rfl,all5 rfl rfl rfl rfl rfl⟩
def PZ.cnY{S:Nat}{T:List (TypeId×Array Value)}(hT:TCn T)(c:CE):PZ S T:=⟨fun u w=>CnY S w u c,fun _ _ _ h hp=>hp.ext h,fun _ _ _ h hp=>(let ⟨_,_,_,h2,h3⟩:=h.cn hT;hp.chgB h3 h2 (by decide) (by decide))⟩
theorem CnY.partsz{B:Nat}{w:World}{v:Value}{c:CE}(h:CnY B w v c):∃cells,v= .agg cells∧cells.size=5∧cells.all (·.oneCell')=true:=by
 obtain⟨a,n,cp,b,a1,n1,c1,a2,n2,c2,rfl, -⟩:=h;exact⟨_,rfl,rfl,all5 rfl rfl rfl rfl rfl⟩
def PZ.tupC{S:Nat}{T:List (TypeId×Array Value)}(hT:TCn T)(k:Nat)(c:CR):PZ S T:=⟨fun u w=>∃v,u= .tuple #[v,.int .i64 0]∧CnO S k w v c,fun _ _ _ h hp=>(let ⟨v,h1,h2⟩:=hp;⟨v,h1,h2.ext h⟩),fun _ _ _ h hp=>(let ⟨v,h1,hq⟩:=hp;let ⟨_,_,_,h2,h3⟩:=h.cn hT;⟨v,h1,hq.chgB h3 h2⟩)⟩
def PZ.blk{S:Nat}{T:List (TypeId×Array Value)}(t:TypeId)(n:Nat)(cs:Array Value)(hn:(t,cs)∉T):PZ S T:=⟨fun u w=>∃g,u= .slice (some ⟨g,0,none⟩) n n∧Bx t w g cs,fun _ _ _ h hp=>(let ⟨g,h1,h2⟩:=hp;⟨g,h1,h2.ext h⟩),fun _ _ _ h hp=>(let ⟨g,h1,h2⟩:=hp;⟨g,h1,h2.zchg h hn⟩)⟩
theorem Bx.chgK{t t':TypeId}{w w':World}{g g':Nat}{cs cs':Array Value}(h:Bx t w g cs)(hc:Chg g' w w')(hb:Bx t' w g' cs')(ht:t'≠t):Bx t w' g cs:=by
 refine h.chg hc ?_;rintro rfl;unfold Bx at h hb;rw[h]at hb;simp only[Option.some.injEq,Obj.cells.injEq,and_true]at hb;exact ht hb.2.symm
def One1(S:Nat)(q:Rat)(w:World)(u:Value):Prop:=∃g b a1 n1 c1 a2 n2 c2,u= .slice (some ⟨g,0,none⟩) 1 1∧Bx 34 w g #[.bool b,.slice a1 n1 c1,.slice a2 n2 c2]∧FrQ S w (.agg #[.bool b,.slice a1 n1 c1,.slice a2 n2 c2]) q
def PZ.one1{S:Nat}{T:List (TypeId×Array Value)}(hT:TCn T)(q:Rat):PZ S T:=⟨fun u w=>One1 S q w u,fun _ _ _ h hp=>(let ⟨g,b,a1,n1,c1,a2,n2,c2,h1,h2,h3⟩:=hp;⟨g,b,a1,n1,c1,a2,n2,c2,h1,h2.ext h,h3.ext h⟩),
 fun _ _ _ h hp=>(let ⟨g,b,a1,n1,c1,a2,n2,c2,h1,h2,h3⟩:=hp;let ⟨_,_,_,k2,k3⟩:=h.cn hT;⟨g,b,a1,n1,c1,a2,n2,c2,h1,h2.chgK k3 k2 (by decide),h3.chgB k3 k2 (by decide)⟩)⟩
theorem One1.ql{S k:Nat}{q:Rat}{w:World}{u:Value}(h:One1 S q w u)(hq:szQ q≤k)(hk:k≤LIM):∃g,u= .slice (some ⟨g,0,none⟩) 1 1∧QL k w u [q]:=by
 obtain⟨g,b,a1,n1,c1,a2,n2,c2,rfl,hb,h3⟩:=h;refine⟨g,rfl,?_⟩;refine ql_new [.agg #[.bool b,.slice a1 n1 c1,.slice a2 n2 c2]] _ ?_ hb rfl rfl (by omega) ?_
 ·intro v hv;simp only[List.mem_cons,List.not_mem_nil,or_false]at hv;subst hv;exact⟨_,rfl,rfl,all3 rfl rfl rfl⟩
 ·intro i u y hu hy
  match i,hu,hy with
  |0,hu,hy=>
   cases hu
   cases hy
   exact h3.isR hq hk
  |i+1,hu,hy=>simp at hu
def Two2(S:Nat)(q r:Rat)(w:World)(u:Value):Prop:=∃g b a1 n1 c1 a2 n2 c2 b' a1' n1' c1' a2' n2' c2',u= .slice (some ⟨g,0,none⟩) 2 2∧Bx 34 w g #[.bool b,.slice a1 n1 c1,.slice a2 n2 c2,.bool b',.slice a1' n1' c1',.slice a2' n2' c2']∧FrQ S w (.agg #[.bool b,.slice a1 n1 c1,.slice a2 n2 c2]) q∧FrQ S w (.agg #[.bool b',.slice a1' n1' c1',.slice a2' n2' c2']) r
def PZ.two2{S:Nat}{T:List (TypeId×Array Value)}(hT:TCn T)(q r:Rat):PZ S T:=⟨fun u w=>Two2 S q r w u,fun _ _ _ h hp=>(let ⟨g,b,a1,n1,c1,a2,n2,c2,b',a1',n1',c1',a2',n2',c2',h1,h2,h3,h4⟩:=hp;⟨g,b,a1,n1,c1,a2,n2,c2,b',a1',n1',c1',a2',n2',c2',h1,h2.ext h,h3.ext h,h4.ext h⟩),
 fun _ _ _ h hp=>(let ⟨g,b,a1,n1,c1,a2,n2,c2,b',a1',n1',c1',a2',n2',c2',h1,h2,h3,h4⟩:=hp;let ⟨_,_,_,k2,k3⟩:=h.cn hT;⟨g,b,a1,n1,c1,a2,n2,c2,b',a1',n1',c1',a2',n2',c2',h1,h2.chgK k3 k2 (by decide),h3.chgB k3 k2 (by decide),h4.chgB k3 k2 (by decide)⟩)⟩
theorem Two2.ql{S k:Nat}{q r:Rat}{w:World}{u:Value}(h:Two2 S q r w u)(hq:szQ q≤k)(hr:szQ r≤k)(hk:k≤LIM):∃g,u= .slice (some ⟨g,0,none⟩) 2 2∧QL k w u [q,r]:=by
 obtain⟨g,b,a1,n1,c1,a2,n2,c2,b',a1',n1',c1',a2',n2',c2',rfl,hb,h3,h4⟩:=h;refine⟨g,rfl,?_⟩;refine ql_new [.agg #[.bool b,.slice a1 n1 c1,.slice a2 n2 c2],.agg #[.bool b',.slice a1' n1' c1',.slice a2' n2' c2']] _ ?_ hb rfl rfl (by omega) ?_
 ·intro v hv;simp only[List.mem_cons,List.not_mem_nil,or_false]at hv
  rcases hv with rfl |rfl
  ·exact⟨_,rfl,rfl,all3 rfl rfl rfl⟩
  ·exact⟨_,rfl,rfl,all3 rfl rfl rfl⟩
 ·intro i u y hu hy
  match i,hu,hy with
  |0,hu,hy=>
   cases hu
   cases hy
   exact h3.isR hq hk
  |1,hu,hy=>
   cases hu
   cases hy
   exact h4.isR hr hk
  |i+2,hu,hy=>simp at hu
theorem cl_one{k:Nat}{w:World}{g:Nat}{c:CR}{a:Option Addr}{n p:Nat}{b:Bool}{a1:Option Addr}{n1 c1:Nat}{a2:Option Addr}{n2 c2:Nat}(hb:Bx 36 w g #[.int .i64 c.1,.slice a n p,.bool b,.slice a1 n1 c1,.slice a2 n2 c2])(h:CnR k w (.agg #[.int .i64 c.1,.slice a n p,.bool b,.slice a1 n1 c1,.slice a2 n2 c2]) c):CL k w (.slice (some ⟨g,0,none⟩) 1 1) [c]:=by
 refine cl_new [.agg #[.int .i64 c.1,.slice a n p,.bool b,.slice a1 n1 c1,.slice a2 n2 c2]] _ ?_ hb rfl rfl (by omega) ?_
 ·intro v hv;simp only[List.mem_cons,List.not_mem_nil,or_false]at hv;subst hv;exact⟨_,rfl,rfl,all5 rfl rfl rfl rfl rfl⟩
 ·intro i u y hu hy
  match i,hu,hy with
  |0,hu,hy=>
   cases hu
   cases hy
   exact h
  |i+1,hu,hy=>simp at hu
theorem cl_two{k:Nat}{w:World}{g:Nat}{c:CR}{a:Option Addr}{n p:Nat}{b:Bool}{a1:Option Addr}{n1 c1:Nat}{a2:Option Addr}{n2 c2:Nat}(hb:Bx 36 w g #[.int .i64 c.1,.slice a n p,.bool b,.slice a1 n1 c1,.slice a2 n2 c2,.int .i64 c.1,.slice a n p,.bool b,.slice a1 n1 c1,.slice a2 n2 c2])(h:CnR k w (.agg #[.int .i64 c.1,.slice a n p,.bool b,.slice a1 n1 c1,.slice a2 n2 c2]) c):CL k w (.slice (some ⟨g,0,none⟩) 2 2) [c,c]:=by
 refine cl_new [.agg #[.int .i64 c.1,.slice a n p,.bool b,.slice a1 n1 c1,.slice a2 n2 c2],.agg #[.int .i64 c.1,.slice a n p,.bool b,.slice a1 n1 c1,.slice a2 n2 c2]] _ ?_ hb rfl rfl (by omega) ?_
 ·intro v hv;simp only[List.mem_cons,List.not_mem_nil,or_false]at hv
  rcases hv with rfl |rfl
  ·exact⟨_,rfl,rfl,all5 rfl rfl rfl rfl rfl⟩
  ·exact⟨_,rfl,rfl,all5 rfl rfl rfl rfl rfl⟩
 ·intro i u y hu hy
  match i,hu,hy with
  |0,hu,hy=>
   cases hu
   cases hy
   exact h
  |1,hu,hy=>
   cases hu
   cases hy
   exact h
  |i+2,hu,hy=>simp at hu
def BO(w:World)(u:Value)(bs:List Bool):Prop:=∃ad cap,u= .slice ad bs.length cap∧bs.length≤cap∧cap≤9223372036854775807∧(bs=[]∨∃g cs,ad=some ⟨g,0,none⟩∧Bx 4 w g cs∧∀(i:Nat) (b:Bool),bs[i]? =some b→cs[i]? =some (.bool b))
theorem BO.bl{w:World}{u:Value}{bs:List Bool}(h:BO w u bs):BL w u bs:=by
 obtain⟨ad,cap,h1,h2,h3,h4⟩:=h;refine⟨ad,cap,h1,h2,h3,?_⟩
 rcases h4 with h4 |⟨g,cs,h4,h5,h6⟩
 ·exact .inl h4
 ·refine .inr ⟨g,0,h4,fun i b hi=>⟨.bool b,?_,rfl⟩⟩
  have:=h5.cell (0+i)
  rw[this,Nat.zero_add];exact h6 i b hi
theorem BO.ext{w w':World}{u:Value}{bs:List Bool}(h:BO w u bs)(he:Ext w w'):BO w' u bs:=by
 obtain⟨ad,cap,h1,h2,h3,h4⟩:=h;refine⟨ad,cap,h1,h2,h3,?_⟩
 rcases h4 with h4 |⟨g,cs,h4,h5,h6⟩
 ·exact .inl h4
 ·exact .inr ⟨g,cs,h4,h5.ext he,h6⟩
def PP.bo{S:Nat}(bs:List Bool):PP S:=⟨true,fun u w=>BO w u bs,fun _ _ _ h hp=>hp.ext h,fun h=>by cases h⟩
theorem emptyF(w:World):(Instr.buildSlice 48 0 #[]).run Tryz.prog w= .ok (.slice (some ⟨w.heap.size,0,none⟩) 0 0) (w.alloc (.cells #[] 4)):=by kernel_rfl
theorem og_emptyB{o:Oper}{a:Act}{f:Nat→Value}{w:World}{post:Value→World→Prop}(hgd:o.guard=none)(ho:o.op= .buildSlice 48 0 #[])(hq:∀w',Ext w w'→post (.slice (some ⟨w.heap.size,0,none⟩) 0 0) w'):OpGoal Tryz.prog o a f w Ext post:=by
 unfold OpGoal;rw[hgd];unfold Oper.wp execOp;simp only[ho,Sem.run_bind,List.map_toArray,List.map_nil,emptyF,Result.andThen_ok];exact⟨_,rfl,(Ext.refl w).alloc _,hq _ ((Ext.refl w).alloc _)⟩
theorem og_appB{o:Oper}{a:Act}{f:Nat→Value}{w:World}{post:Value→World→Prop}(s x:Operand)(hgd:o.guard=none)(ho:o.op= .call {callee:= .builtin .append,args:=#[s,x],argTypes:=#[48,48]})
  (g:Nat) (hs:a.eval s= .slice (some ⟨g,0,none⟩) 0 0) (v:Value) (bs:List Bool) (hx:a.eval x=v) (hb:BL w v bs) (hl:bs.length≤140737488355328) (h:∀v' w',Ext w w'→BO w' v' bs→post v' w'):OpGoal Tryz.prog o a f w Ext post:=by
 unfold OpGoal;rw[hgd];obtain⟨ad,cap,rfl,h1,h2,h3⟩:=hb
 have hi0:(Tryz.prog.info? 4).map (fun i=>(i.size,i.bytes))=some (1,1):=by kernel_rfl
 have hz0:((Tryz.prog.info? 4).bind (·.zero))=some (.bool false):=by kernel_rfl
 cases hie:Tryz.prog.info? 4 with
 |none=>rw [hie]at hi0;cases hi0
 |some i=>
 rw[hie]at hi0 hz0;simp only[Option.map_some,Option.some.injEq,Prod.mk.injEq,Option.bind_some]at hi0 hz0
 have key:∃v' w',(Builtin.append_ #[48,48] o.type #[.slice (some ⟨g,0,none⟩) 0 0,.slice ad bs.length cap]).run Tryz.prog w= .ok v' w'∧Ext w w'∧BO w' v' bs:=by
  match bs,h1,h3,hl with
  | [],h1,h3,hl=>
   have hsrc:Src Tryz.prog i.size 48 (.slice ad 0 cap) 0 [] w:=by
    cases ad with
    |none=>exact Src.ofNil w Tryz.underlying48 cap
    |some q=>exact Src.ofSlice w Tryz.underlying48 q 0 cap [] (by simp) (fun j u hj=>by simp at hj) (fun u hu=>by cases hu)
   exact⟨_,_,run_append_room_src w 48 48 o.type 4 i Tryz.underlying48 hie g 0 0 0 _ 0 [] hsrc (Nat.le_refl _) (fun j hj=>by simp at hj) (fun j hj=>by simp at hj),Ext.refl w,⟨_,0,rfl,Nat.le_refl _,by omega,.inl rfl⟩⟩
  |b::bs,h1,h3,hl=>
   rcases h3 with h3 |⟨g',off,rfl,h4⟩
   ·cases h3
   have hsrc:Src Tryz.prog i.size 48 (.slice (some ⟨g',off,none⟩) (b::bs).length cap) (b::bs).length ((b::bs).map Value.bool) w:=by
    refine Src.ofSlice w Tryz.underlying48 _ _ _ _ (by rw[List.length_map,hi0.1,Nat.mul_one]) (fun j u hj=> ?_) (fun u hu=> ?_)
    ·rw[List.getElem?_map]at hj
     cases hbj:(b::bs)[j]? with
     |none=>rw [hbj]at hj;cases hj
     |some y=>
      rw[hbj]at hj
      cases hj
      obtain⟨v,k1,rfl⟩:=h4 j y hbj;rw[Addr.add_lit];exact k1
    ·obtain⟨y, -,rfl⟩:=List.mem_map.1 hu
     rfl
   have hr:=run_append_grow_src w 48 48 o.type 4 i (.bool false) Tryz.underlying48 hie hz0 (some ⟨g,0,none⟩) 0 0 [] (run_firstCells_some w.drew i.size 0 ⟨g,0,none⟩ 0 0 [] (by simp) (fun j u hj=>by simp at hj)) _ _ _ hsrc (by simp) (by simp only[List.length_cons]at hl ⊢;omega) (by
    rw[hi0.2,Nat.mul_one];unfold Builtin.nextslicecap;rw[if_pos (by simp)]
    omega)
   refine⟨_,_,hr,((Ext.refl w).drew).trans ((Ext.refl _).alloc _),?_⟩;obtain⟨gc,hgc⟩:∃gc,gc=grownCap w (0+(b::bs).length) 0 4:=⟨_,rfl⟩;have hge:=grownCap_ge w (0+(b::bs).length) 0 4;have hle:=grownCap_le_maxLen w (0+(b::bs).length) 0 4 (by unfold maxLen;omega);rw[←hgc]at hge hle ⊢;unfold maxLen at hle;rw[Nat.zero_add]at hge ⊢;refine⟨_,gc,rfl,hge,by omega,.inr ⟨w.heap.size,_,rfl,Bx.new w.drew 4 _,fun j y hj=> ?_⟩⟩;rw[List.nil_append,Array.getElem?_append_left (by simp only[List.size_toArray,List.length_map];exact(List.getElem?_eq_some_iff.1 hj).1),List.getElem?_toArray,List.getElem?_map,hj]
   rfl
 obtain⟨v',w',hr,he,hbl⟩:=key;unfold Oper.wp
 simp[execOp,ho,resolve,invoke,builtin,hs,hx,hr,Result.andThen]
 exact⟨v',rfl,he,h v' w' he hbl⟩
theorem emptyB(w:World):(Instr.buildSlice 48 0 #[]).run Tryz.prog w= .ok (.slice (some ⟨w.heap.size,0,none⟩) 0 0) (w.alloc (.cells #[] 4)):=by kernel_rfl
def I64(w:World)(u:Value)(l:List Int):Prop:=SV (fun _ v z=>v= .int .i64 z∧ -9223372036854775808≤z∧z≤9223372036854775807) w u l
theorem I64.at{w:World}{u:Value}{l:List Int}(h:I64 w u l):∃ad m cap,m=l.length∧u= .slice ad m cap∧m≤9223372036854775807∧∀(i:Nat) (z:Int),l[i]? =some z→(-9223372036854775808≤z∧z≤9223372036854775807)∧∃g off,ad=some ⟨g,off,none⟩∧∀wz,Ext w wz→wz.cell? ⟨g,off+i,none⟩=some (.int .i64 z):=by
 obtain⟨ad,m,cap,h1,h2,h3,h4⟩:=h.opn;refine⟨ad,m,cap,h1,h2,h3,fun i b hi=> ?_⟩;obtain⟨g,off,k1,v,k2,rfl,k3⟩:=h4 i b hi;exact⟨k3,g,off,k1,k2⟩
theorem ownsRow_chgT{B e size n g:Nat}{w w':World}{v:Value}{xs:List Value}{t:TypeId}{cs:Array Value}(h:w.ownsRow B e size v n xs)(he:Chg g w w')(hp:Bx t w g cs)(ht:t≠e):w'.ownsRow B e size v n xs:=by
 refine⟨h.1,?_⟩
 rcases h.2 with h2 |⟨g',cap,cur,h1,h2,h3,h4⟩
 ·exact .inl h2
 ·refine .inr ⟨g',cap,cur,h1,h2,he.blk h3 ?_,h4⟩;rintro rfl;unfold Bx at hp;rw[h3]at hp;simp only[Option.some.injEq,Obj.cells.injEq]at hp;exact ht hp.2.1.symm
theorem ownsRow_growO{B e n m:Nat}{w w':World}{v:Value}{xs:List Value}(h:w.ownsRow B e n v m xs)(hg:w.grownBy w' v.ownBlock):Ext w w'∨∃g cs,Bx e w g cs∧Chg g w w':=by
 rcases h.2 with⟨h1,h2⟩ |⟨g,cap,cur,h1,h2,h3,h4⟩
 ·rw[h1]at hg;exact .inl hg
 ·rw[h1]at hg;exact .inr ⟨g,cur,h3,hg⟩
theorem szQ_z{z:Int}(h: -9223372036854775808≤z∧z≤9223372036854775807):szQ (z:Rat)≤6:=by
 have h1:szZ z≤1:=szZ_small (show z.natAbs<W by rw[W_eq];omega);exact Nat.le_trans (szQ_intle h1 (Nat.le_refl _)) (by omega)
theorem isW_all{ys:List Int}:∀x∈ys.map (fun z:Int=>(z:Rat)),isW x=true:=by
 intro x hx;obtain⟨z, -,rfl⟩:=List.mem_map.1 hx;exact isW_int z
theorem roundV_len{c:CR}(h:c.2.1.length≤30):(roundV c).2.1.length≤30:=by
 have:=mkV_len c.2.1
 unfold roundV formC
 split
 ·simp only;omega
 ·split
  ·simp only;omega
  ·split
   ·simp only;omega
   ·simp
set_option maxHeartbeats 32000000 in
theorem consWhole_calls(v u t:Value)(a b:CE)(ys:List Int)(w:World)(hv:CnE w v a)(hu:CnE w u b)(ht:I64 w t ys):
  Calls Tryz.prog 8 #[v,u,t] w fun e w'=>e= .returned (.bool true)∧Ext w w':=by
 have HV:=Lib.hid hv;obtain⟨ax,nx,px,bbx,a1x,n1x,c1x,a2x,n2x,c2x,rfl, -, -⟩:=hv;have HU:=Lib.hid hu;obtain⟨ay,ny,py,bby,a1y,n1y,c1y,a2y,n2y,c2y,rfl, -, -⟩:=hu;obtain⟨ad,n,cap,hnl,rfl,hn1,hat⟩:=ht.at;have HN:=Lib.hid hnl;have HAT:=Lib.hid hat;have eq:=emptyQ;have eb:=emptyB
 have lim:(100000:Nat)≤LIM:=by rw[LIM_eq];omega
 clear hnl hat ht;obtain⟨w1,hw1,e1,b1_,b2_,s1⟩:=alloc2 w #[.int .i64 a.1,.slice ax nx px,.bool bbx,.slice a1x n1x c1x,.slice a2x n2x c2x] #[.int .i64 b.1,.slice ay ny py,.bool bby,.slice a1y n1y c1y,.slice a2y n2y c2y] 36 36
 go_enter Tryz.func8,Tryz.ntmps8
 go_wp2_with fail;rw[←hw1];refine(speaksc_calls w1).mono ?_;rintro e w2 ⟨rfl,e2⟩;have E2:=e1.trans e2;have P2:=b1_.ext e2;have Q2:=b2_.ext e2;have hp0:=P2.cell 0;have hp1:=P2.cell 1;have hp2:=P2.cell 2;have hp3:=P2.cell 3;have hp4:=P2.cell 4;have hq0:=Q2.cell 0;have hq1:=Q2.cell 1;have hq2:=Q2.cell 2;have hq3:=Q2.cell 3;have hq4:=Q2.cell 4;clear hw1 b1_ b2_ e1 e2;obtain⟨w3,hw3,e3,bx3,s3⟩:=alloc1 w2 #[.int .i64 a.1,.slice ax nx px,.bool bbx,.slice a1x n1x c1x,.slice a2x n2x c2x,.int .i64 b.1,.slice ay ny py,.bool bby,.slice a1y n1y c1y,.slice a2y n2y c2y] 36;have E3:=E2.trans e3;have L3:=cle_new2 bx3 (HV.out.ext E3) (HU.out.ext E3);go_wp2_with fail;rw[←hw3];refine(greatC_calls _ [a,b] w3 L3 (by simp)).mono ?_;rintro e w4 ⟨rfl,e4⟩;have E4:=E3.trans e4;have P4:=(P2.ext e3).ext e4;have Q4:=(Q2.ext e3).ext e4;clear hw3 hp0 hp1 hp2 hp3 hp4 hq0 hq1 hq2 hq3 hq4 bx3 s3 P2 Q2 L3 E2 E3 e3 e4;obtain⟨p,hp⟩:∃p,p=greatC [a,b]:=⟨_,rfl⟩;rw[←hp];have HP:=Lib.hid hp;clear hp
 cases p with
 |true=>
  go_wp2;go_ret;exact⟨rfl,E4⟩
 |false=>
 by_cases h30:(30:Int)<(n:Int)
 ·go_wp2;go_ret;exact⟨rfl,E4⟩
 obtain⟨⟨-,la⟩, -,fa⟩:=great_in (c:=a) HP.out.symm (by simp);obtain⟨⟨-,lb⟩, -,fb⟩:=great_in (c:=b) HP.out.symm (by simp);have FA:=Lib.hid (fun(w':World) (h:Ext w w')=>fa (HV.out.ext h));have FB:=Lib.hid (fun(w':World) (h:Ext w w')=>fb (HU.out.ext h));clear fa fb HP;obtain⟨A,hA⟩:∃A,A=ratC a:=⟨_,rfl⟩;obtain⟨B,hB⟩:∃B,B=ratC b:=⟨_,rfl⟩;rw[←hA]at FA la;rw[←hB]at FB lb;clear hA hB
 have hn30:n≤30:=by omega
 obtain⟨S0,hS0⟩:∃S0,S0=w4.heap.size:=⟨_,rfl⟩;have HS0:=Lib.hid hS0;have HE4:=Lib.hid E4;have HP4:=Lib.hid (And.intro P4 Q4);have hS4:=E4.size;clear P4 Q4 E4;go_wp2_with fail
 go_loopw [7,8,28] (fun s7 s8 s28 wr=>∃(i:Nat) (ado adb:Option Addr) (capo capb:Nat),i≤n∧s28= .int .i64 (i:Int)∧s7= .slice ado i capo∧s8= .slice adb i capb∧Hid (OL 34 3 S0 (FrK S0 6) wr (.slice ado i capo) ((ys.take i).map fun z:Int=>(z:Rat)))∧Hid (OV 4 S0 (fun _ v b=>v= .bool b) wr (.slice adb i capb) (List.replicate i true))∧Ext w4 wr) (fun _ _ s28 _=>((n:Int) - intOf s28).toNat)
 case atStart=>
  refine⟨0,some ⟨w4.heap.size,0,none⟩,some ⟨w4.heap.size+1,0,none⟩,0,0,Nat.zero_le _,rfl,rfl,rfl,Lib.hid ?_,Lib.hid ?_,((Ext.refl _).alloc _).alloc _⟩
  ·exact⟨[],(LS.empty _ _ _ _ (Nat.le_of_eq hS0)).ext ((Ext.refl _).alloc _),by simp,fun i u y h=>by simp at h⟩
  ·have:=OV.empty 4 S0 (fun _ v b=>v=Value.bool b) (w4.alloc (.cells #[] 34)) (by rw[alloc_size];omega)
   rw[alloc_size]at this;exact this
 case round=>
  obtain⟨i,ado,adb,capo,capb,hi,rfl,rfl,rfl,hS,hF,hE0⟩:=hrel
  rcases Nat.eq_or_lt_of_le hi with hin |hin
  ·subst hin
   have hlt:¬((i:Int)<(i:Int)):=by omega
   obtain⟨X,hX⟩:∃X,X=ys.map fun z:Int=>(z:Rat):=⟨_,rfl⟩
   have HXW:Hid (∀x∈X,isW x=true):=Lib.hid (by rw[hX];exact isW_all)
   have TX:=Lib.hid (show∀w',Ext wr w'→QL 6 w' (.slice ado i capo) X from by
    have h1:=hS.out;rw[show ys.take i=ys by rw[HN.out,List.take_length],←hX]at h1
    exact fun w' h=>QL.ext (h1.ql (by omega)) h)
   have TB:=Lib.hid (show∀w',Ext wr w'→BL w' (.slice adb i capb) (List.replicate i true)from fun w' h=>BL.ext hF.out.sv h);have EL:=Lib.hid (HE4.out.trans hE0);have F0:=Ext.refl wr;have P0:=HP4.out.1.ext hE0;have Q0:=HP4.out.2.ext hE0;obtain⟨w0,hw0⟩:∃w0,w0=wr:=⟨_,rfl⟩;rw[←hw0]at F0 P0 Q0 ⊢;rw[←hw0]at TX TB EL;clear hw0 hS hF hE0 hX HN HAT HP4 HE4 HS0 wr;have hw0:True:=trivial;have hp0:=P0.cell 0;have hp1:=P0.cell 1;have hp2:=P0.cell 2;have hp3:=P0.cell 3;have hp4:=P0.cell 4;have hq0:=Q0.cell 0;have hq1:=Q0.cell 1;have hq2:=Q0.cell 2;have hq3:=Q0.cell 3;have hq4:=Q0.cell 4;go_wp2_with fail;refine(split_calls 6 30 _ _ _ A B (List.replicate i true) w0 (FA.out _ (EL.out.trans F0)) (FB.out _ (EL.out.trans F0)) (TB.out _ F0) la lb (by omega) (by omega)).mono ?_;rintro e w1 ⟨rfl,e1⟩;have F1:=F0.trans e1;have P1:=P0.ext e1;have Q1:=Q0.ext e1;clear e1 P0 Q0 hp0 hp1 hp2 hp3 hp4 hq0 hq1 hq2 hq3 hq4;obtain⟨sp,hsp⟩:∃sp,sp=splitC A B (List.replicate i true):=⟨_,rfl⟩;rw[←hsp];have HSP:=Lib.hid hsp;clear hsp
   cases sp with
   |false=>
    have hp0:=P1.cell 0;have hp1:=P1.cell 1;have hp2:=P1.cell 2;have hp3:=P1.cell 3;have hp4:=P1.cell 4;go_wp2_with fail;refine(holds_calls 6 6 _ _ A X w1 (FA.out _ (EL.out.trans F1)) (TX.out _ F1) (by omega)).mono ?_;rintro e w1a ⟨rfl,e1a⟩;have F1a:=F1.trans e1a;have P1a:=P1.ext e1a;have Q1a:=Q1.ext e1a;clear e1a P1 Q1 hp0 hp1 hp2 hp3 hp4;obtain⟨ha,hha⟩:∃ha,ha=holdsC A X:=⟨_,rfl⟩;rw[←hha];have HHA:=Lib.hid hha;clear hha
    cases ha with
    |false=>
     go_wp2;go_ret;exact⟨rfl,EL.out.trans F1a⟩
    |true=>
    have HAT:Hid (holdsC A X=true):=Lib.hid HHA.out.symm
    have hp0:=P1a.cell 0;have hp1:=P1a.cell 1;have hp2:=P1a.cell 2;have hp3:=P1a.cell 3;have hp4:=P1a.cell 4;go_wp2_with fail;refine(cround_calls 6 210 _ _ A (List.replicate i true) w1a (FA.out _ (EL.out.trans F1a)) (TB.out _ F1a) (by omega) (by omega) (by omega) (by omega) (by omega)).mono ?_;rintro e w1ab ⟨v1ab,rfl,e1ab,hok,hno⟩;have F1ab:=F1a.trans e1ab;have P1ab:=P1a.ext e1ab;have Q1ab:=Q1a.ext e1ab;clear e1ab P1a Q1a hp0 hp1 hp2 hp3 hp4;obtain⟨cd,hcd⟩:∃cd,cd=roundE A (List.replicate i true):=⟨_,rfl⟩;rw[←hcd]at hok hno ⊢;have HCD:=Lib.hid hcd;clear hcd
    by_cases h0:cd=0
    ·have ho:=hok h0;subst h0;have CA:=Lib.hid ho;obtain⟨a8,n8,p8,b8,a18,n18,c18,a28,n28,c28,rfl, -⟩:=ho;obtain⟨w1abc,hw1abc,e1abc,B1abc,s1abc⟩:=alloc1 w1ab #[.int .i64 (roundV A).1,.slice a8 n8 p8,.bool b8,.slice a18 n18 c18,.slice a28 n28 c28] 36;have F1abc:=F1ab.trans e1abc;have P1abc:=P1ab.ext e1abc;have Q1abc:=Q1ab.ext e1abc;have CB:=Lib.hid ((CA.out.cnR (by omega)).ext e1abc);have hl8:(roundV A).2.1.length≤30:=roundV_len la
     have HRH:Hid (holdsC (roundV A) X=true):=Lib.hid (round_holds HCD.out.symm HXW.out HAT.out)
     clear hok hno e1abc P1ab Q1ab;go_wp2_with fail;rw[←hw1abc];refine(holds_calls 211 6 _ _ (roundV A) X w1abc CB.out (TX.out _ F1abc) (by omega)).mono ?_;rintro e w1abcd ⟨rfl,e1abcd⟩;rw[HRH.out];have F1abcd:=F1abc.trans e1abcd;have P1abcd:=P1abc.ext e1abcd;have Q1abcd:=Q1abc.ext e1abcd;clear e1abcd P1abc Q1abc B1abc hw1abc;have hp0:=P1abcd.cell 0;have hp1:=P1abcd.cell 1;have hp2:=P1abcd.cell 2;have hp3:=P1abcd.cell 3;have hp4:=P1abcd.cell 4;have hq0:=Q1abcd.cell 0;have hq1:=Q1abcd.cell 1;have hq2:=Q1abcd.cell 2;have hq3:=Q1abcd.cell 3;have hq4:=Q1abcd.cell 4;go_wp2_with fail;refine(dominates_calls 6 30 _ _ A B w1abcd (FA.out _ (EL.out.trans F1abcd)) (FB.out _ (EL.out.trans F1abcd)) la lb (by omega) (by omega)).mono ?_;rintro e w1abcde ⟨rfl,e1abcde⟩;have F1abcde:=F1abcd.trans e1abcde;have P1abcde:=P1abcd.ext e1abcde;have Q1abcde:=Q1abcd.ext e1abcde;clear e1abcde P1abcd Q1abcd hp0 hp1 hp2 hp3 hp4 hq0 hq1 hq2 hq3 hq4;obtain⟨d,hd⟩:∃d,d=domC A B:=⟨_,rfl⟩;rw[←hd];have HD:=Lib.hid hd;clear hd
     cases d with
     |false=>
      go_wp2;go_ret;exact⟨rfl,EL.out.trans F1abcde⟩
     |true=>
     have HBH:Hid (holdsC B X=true):=Lib.hid (dom_holds HD.out.symm HAT.out)
     have hq0:=Q1abcde.cell 0;have hq1:=Q1abcde.cell 1;have hq2:=Q1abcde.cell 2;have hq3:=Q1abcde.cell 3;have hq4:=Q1abcde.cell 4;go_wp2_with fail;refine(holds_calls 6 6 _ _ B X w1abcde (FB.out _ (EL.out.trans F1abcde)) (TX.out _ F1abcde) (by omega)).mono ?_;rintro e w1abcdef ⟨rfl,e1abcdef⟩;rw[HBH.out];have F1abcdef:=F1abcde.trans e1abcdef;go_wp2;go_ret;exact⟨rfl,EL.out.trans F1abcdef⟩
    ·have hz:=hno h0;subst hz
     have hz0:(cd==0)=false:=by simpa using h0
     have hz1:(cd !=0)=true:=by rw[bne_iff_ne];exact h0
     have hz2:¬cd=0:=h0
     unfold zeroC;clear hok hno;obtain⟨w1abg,hw1abg,e1abg,B1abg,s1abg⟩:=alloc1 w1ab #[.int .i64 0,.slice none 0 0,.bool false,.slice none 0 0,.slice none 0 0] 36;have F1abg:=F1ab.trans e1abg;have P1abg:=P1ab.ext e1abg;have Q1abg:=Q1ab.ext e1abg;clear e1abg P1ab Q1ab;have hp0:=P1abg.cell 0;have hp1:=P1abg.cell 1;have hp2:=P1abg.cell 2;have hp3:=P1abg.cell 3;have hp4:=P1abg.cell 4;have hq0:=Q1abg.cell 0;have hq1:=Q1abg.cell 1;have hq2:=Q1abg.cell 2;have hq3:=Q1abg.cell 3;have hq4:=Q1abg.cell 4;rw[hw1abg]at hp0 hp1 hp2 hp3 hp4 hq0 hq1 hq2 hq3 hq4;go_wp2_with fail;rw[←hw1abg];refine(dominates_calls 6 30 _ _ A B w1abg (FA.out _ (EL.out.trans F1abg)) (FB.out _ (EL.out.trans F1abg)) la lb (by omega) (by omega)).mono ?_;rintro e w1abge ⟨rfl,e1abge⟩;have F1abge:=F1abg.trans e1abge;have Q1abge:=Q1abg.ext e1abge;clear e1abge Q1abg hp0 hp1 hp2 hp3 hp4 hq0 hq1 hq2 hq3 hq4;obtain⟨d,hd⟩:∃d,d=domC A B:=⟨_,rfl⟩;rw[←hd];have HD:=Lib.hid hd;clear hd
     cases d with
     |false=>
      go_wp2;go_ret;exact⟨rfl,EL.out.trans F1abge⟩
     |true=>
     have HBH:Hid (holdsC B X=true):=Lib.hid (dom_holds HD.out.symm HAT.out)
     have hq0:=Q1abge.cell 0;have hq1:=Q1abge.cell 1;have hq2:=Q1abge.cell 2;have hq3:=Q1abge.cell 3;have hq4:=Q1abge.cell 4;go_wp2_with fail;refine(holds_calls 6 6 _ _ B X w1abge (FB.out _ (EL.out.trans F1abge)) (TX.out _ F1abge) (by omega)).mono ?_;rintro e w1abgef ⟨rfl,e1abgef⟩;rw[HBH.out];have F1abgef:=F1abge.trans e1abgef;go_wp2;go_ret;exact⟨rfl,EL.out.trans F1abgef⟩
   |true=>
    have hp0:=P1.cell 0;have hp1:=P1.cell 1;have hp2:=P1.cell 2;have hp3:=P1.cell 3;have hp4:=P1.cell 4;go_wp2_with fail;refine(holds_calls 6 6 _ _ A X w1 (FA.out _ (EL.out.trans F1)) (TX.out _ F1) (by omega)).mono ?_;rintro e w2 ⟨rfl,e2⟩;have F2:=F1.trans e2;have P2:=P1.ext e2;have Q2:=Q1.ext e2;clear e2 P1 Q1 hp0 hp1 hp2 hp3 hp4;obtain⟨h1,hh1⟩:∃h1,h1=holdsC A X:=⟨_,rfl⟩;rw[←hh1];have HH1:=Lib.hid hh1;clear hh1
    cases h1 with
    |true=>
     have HAT:Hid (holdsC A X=true):=Lib.hid HH1.out.symm
     have hp0:=P2.cell 0;have hp1:=P2.cell 1;have hp2:=P2.cell 2;have hp3:=P2.cell 3;have hp4:=P2.cell 4;go_wp2_with fail;refine(holds_calls 6 6 _ _ A X w2 (FA.out _ (EL.out.trans F2)) (TX.out _ F2) (by omega)).mono ?_;rintro e w2a ⟨rfl,e2a⟩;have F2a:=F2.trans e2a;have P2a:=P2.ext e2a;have Q2a:=Q2.ext e2a;clear e2a P2 Q2 hp0 hp1 hp2 hp3 hp4;rw[HAT.out];have hp0:=P2a.cell 0;have hp1:=P2a.cell 1;have hp2:=P2a.cell 2;have hp3:=P2a.cell 3;have hp4:=P2a.cell 4;go_wp2_with fail;refine(cround_calls 6 210 _ _ A (List.replicate i true) w2a (FA.out _ (EL.out.trans F2a)) (TB.out _ F2a) (by omega) (by omega) (by omega) (by omega) (by omega)).mono ?_;rintro e w2ab ⟨v2ab,rfl,e2ab,hok,hno⟩;have F2ab:=F2a.trans e2ab;have P2ab:=P2a.ext e2ab;have Q2ab:=Q2a.ext e2ab;clear e2ab P2a Q2a hp0 hp1 hp2 hp3 hp4;obtain⟨cd,hcd⟩:∃cd,cd=roundE A (List.replicate i true):=⟨_,rfl⟩;rw[←hcd]at hok hno ⊢;have HCD:=Lib.hid hcd;clear hcd
     by_cases h0:cd=0
     ·have ho:=hok h0;subst h0;have CA:=Lib.hid ho;obtain⟨a8,n8,p8,b8,a18,n18,c18,a28,n28,c28,rfl, -⟩:=ho;obtain⟨w2abc,hw2abc,e2abc,B2abc,s2abc⟩:=alloc1 w2ab #[.int .i64 (roundV A).1,.slice a8 n8 p8,.bool b8,.slice a18 n18 c18,.slice a28 n28 c28] 36;have F2abc:=F2ab.trans e2abc;have P2abc:=P2ab.ext e2abc;have Q2abc:=Q2ab.ext e2abc;have CB:=Lib.hid ((CA.out.cnR (by omega)).ext e2abc);have hl8:(roundV A).2.1.length≤30:=roundV_len la
      have HRH:Hid (holdsC (roundV A) X=true):=Lib.hid (round_holds HCD.out.symm HXW.out HAT.out)
      clear hok hno e2abc P2ab Q2ab;go_wp2_with fail;rw[←hw2abc];refine(holds_calls 211 6 _ _ (roundV A) X w2abc CB.out (TX.out _ F2abc) (by omega)).mono ?_;rintro e w2abcd ⟨rfl,e2abcd⟩;rw[HRH.out];have F2abcd:=F2abc.trans e2abcd;have P2abcd:=P2abc.ext e2abcd;have Q2abcd:=Q2abc.ext e2abcd;clear e2abcd P2abc Q2abc B2abc hw2abc;have hp0:=P2abcd.cell 0;have hp1:=P2abcd.cell 1;have hp2:=P2abcd.cell 2;have hp3:=P2abcd.cell 3;have hp4:=P2abcd.cell 4;have hq0:=Q2abcd.cell 0;have hq1:=Q2abcd.cell 1;have hq2:=Q2abcd.cell 2;have hq3:=Q2abcd.cell 3;have hq4:=Q2abcd.cell 4;go_wp2_with fail;refine(dominates_calls 6 30 _ _ A B w2abcd (FA.out _ (EL.out.trans F2abcd)) (FB.out _ (EL.out.trans F2abcd)) la lb (by omega) (by omega)).mono ?_;rintro e w2abcde ⟨rfl,e2abcde⟩;have F2abcde:=F2abcd.trans e2abcde;have P2abcde:=P2abcd.ext e2abcde;have Q2abcde:=Q2abcd.ext e2abcde;clear e2abcde P2abcd Q2abcd hp0 hp1 hp2 hp3 hp4 hq0 hq1 hq2 hq3 hq4;obtain⟨d,hd⟩:∃d,d=domC A B:=⟨_,rfl⟩;rw[←hd];have HD:=Lib.hid hd;clear hd
      cases d with
      |false=>
       go_wp2;go_ret;exact⟨rfl,EL.out.trans F2abcde⟩
      |true=>
      have HBH:Hid (holdsC B X=true):=Lib.hid (dom_holds HD.out.symm HAT.out)
      have hq0:=Q2abcde.cell 0;have hq1:=Q2abcde.cell 1;have hq2:=Q2abcde.cell 2;have hq3:=Q2abcde.cell 3;have hq4:=Q2abcde.cell 4;go_wp2_with fail;refine(holds_calls 6 6 _ _ B X w2abcde (FB.out _ (EL.out.trans F2abcde)) (TX.out _ F2abcde) (by omega)).mono ?_;rintro e w2abcdef ⟨rfl,e2abcdef⟩;rw[HBH.out];have F2abcdef:=F2abcde.trans e2abcdef;go_wp2;go_ret;exact⟨rfl,EL.out.trans F2abcdef⟩
     ·have hz:=hno h0;subst hz
      have hz0:(cd==0)=false:=by simpa using h0
      have hz1:(cd !=0)=true:=by rw[bne_iff_ne];exact h0
      have hz2:¬cd=0:=h0
      unfold zeroC;clear hok hno;obtain⟨w2abg,hw2abg,e2abg,B2abg,s2abg⟩:=alloc1 w2ab #[.int .i64 0,.slice none 0 0,.bool false,.slice none 0 0,.slice none 0 0] 36;have F2abg:=F2ab.trans e2abg;have P2abg:=P2ab.ext e2abg;have Q2abg:=Q2ab.ext e2abg;clear e2abg P2ab Q2ab;have hp0:=P2abg.cell 0;have hp1:=P2abg.cell 1;have hp2:=P2abg.cell 2;have hp3:=P2abg.cell 3;have hp4:=P2abg.cell 4;have hq0:=Q2abg.cell 0;have hq1:=Q2abg.cell 1;have hq2:=Q2abg.cell 2;have hq3:=Q2abg.cell 3;have hq4:=Q2abg.cell 4;rw[hw2abg]at hp0 hp1 hp2 hp3 hp4 hq0 hq1 hq2 hq3 hq4;go_wp2_with fail;rw[←hw2abg];refine(dominates_calls 6 30 _ _ A B w2abg (FA.out _ (EL.out.trans F2abg)) (FB.out _ (EL.out.trans F2abg)) la lb (by omega) (by omega)).mono ?_;rintro e w2abge ⟨rfl,e2abge⟩;have F2abge:=F2abg.trans e2abge;have Q2abge:=Q2abg.ext e2abge;clear e2abge Q2abg hp0 hp1 hp2 hp3 hp4 hq0 hq1 hq2 hq3 hq4;obtain⟨d,hd⟩:∃d,d=domC A B:=⟨_,rfl⟩;rw[←hd];have HD:=Lib.hid hd;clear hd
      cases d with
      |false=>
       go_wp2;go_ret;exact⟨rfl,EL.out.trans F2abge⟩
      |true=>
      have HBH:Hid (holdsC B X=true):=Lib.hid (dom_holds HD.out.symm HAT.out)
      have hq0:=Q2abge.cell 0;have hq1:=Q2abge.cell 1;have hq2:=Q2abge.cell 2;have hq3:=Q2abge.cell 3;have hq4:=Q2abge.cell 4;go_wp2_with fail;refine(holds_calls 6 6 _ _ B X w2abge (FB.out _ (EL.out.trans F2abge)) (TX.out _ F2abge) (by omega)).mono ?_;rintro e w2abgef ⟨rfl,e2abgef⟩;rw[HBH.out];have F2abgef:=F2abge.trans e2abgef;go_wp2;go_ret;exact⟨rfl,EL.out.trans F2abgef⟩
    |false=>
     have HBT:Hid (holdsC B X=true):=Lib.hid (split_holds HSP.out.symm HXW.out HH1.out.symm)
     have hq0:=Q2.cell 0;have hq1:=Q2.cell 1;have hq2:=Q2.cell 2;have hq3:=Q2.cell 3;have hq4:=Q2.cell 4;go_wp2_with fail;refine(holds_calls 6 6 _ _ B X w2 (FB.out _ (EL.out.trans F2)) (TX.out _ F2) (by omega)).mono ?_;rintro e w3 ⟨rfl,e3⟩;have F3:=F2.trans e3;have P3:=P2.ext e3;have Q3:=Q2.ext e3;clear e3 P2 Q2 hq0 hq1 hq2 hq3 hq4;rw[HBT.out];have hp0:=P3.cell 0;have hp1:=P3.cell 1;have hp2:=P3.cell 2;have hp3:=P3.cell 3;have hp4:=P3.cell 4;go_wp2_with fail;refine(holds_calls 6 6 _ _ A X w3 (FA.out _ (EL.out.trans F3)) (TX.out _ F3) (by omega)).mono ?_;rintro e w4 ⟨rfl,e4⟩;have F4:=F3.trans e4;have P4:=P3.ext e4;have Q4:=Q3.ext e4;clear e4 P3 Q3 hp0 hp1 hp2 hp3 hp4;rw[←HH1.out];go_wp2;go_ret;exact⟨rfl,EL.out.trans F4⟩
  ·have hlt:(i:Int)<(n:Int):=by omega
   obtain⟨z,hx⟩:∃x,ys[i]? =some x:=⟨_,List.getElem?_eq_getElem (by rw[←HN.out];exact hin)⟩;obtain⟨hzb,g,off,rfl,hcell⟩:=HAT.out i _ hx;have hc0:=hcell wr (HE4.out.trans hE0);obtain⟨vs,hls,hvl,hvs⟩:=hS.out;obtain⟨vb,hlb,hbl,hbs⟩:=hF.out
   have hvi:vs.length=i:=by rw[hvl,List.length_map,List.length_take,←HN.out];omega
   have hbi:vb.length=i:=by rw[hbl,List.length_replicate]
   have htk:=take_next hx;subst hvi;have HBI:=Lib.hid hbi;rw[hbi]at hlb;have HTK:=Lib.hid htk;have HLS:=Lib.hid hls;have HLB:=Lib.hid hlb;have HV:=Lib.hid (And.intro hvl hvs);have HB:=Lib.hid (And.intro hbl hbs);have HZ:=Lib.hid (szQ_z hzb);have hwr:=hE0.size;have hzl:=hzb.1;have hzu:=hzb.2;clear hcell hx hls hvl hvs htk hlb hbl hbs hbi hS hF hzb;go_wp2_with fail;refine(wholec_calls z wr hzl hzu).mono ?_;rintro e w6 ⟨v6,rfl,r6,e6⟩;obtain⟨b6,a6,l6,k6,a6',l6',k6',rfl,q6⟩:=r6.opn;have HR6:=Lib.hid (show FrK S0 6 w6 _ (z:Rat)from⟨q6.mono (by omega),HZ.out⟩);have hs6:=e6.size;clear q6 r6 hc0
   go_wp2_with (first
    | (at_builtin;go_loud (refine wpList_append_LS rfl _ _ 23 rfl 34 3 56 S0 Tryz.underlying23 (by kernel_rfl) (by kernel_rfl) (by omega) _ vs rfl (HLS.out.ext (e6.trans ((Ext.refl _).alloc _))) ⟨w6.heap.size,0,none⟩ #[.bool b6,.slice a6 l6 k6,.slice a6' l6' k6'] rfl rfl (news_new _ _ _) (by kernel_rfl) (by omega) (by omega) (by rw[alloc_size];omega) ?_);intro g' cap2' w7 hls7 hg7 hwh7 hlt7;have hA:=(Ext.refl w6).alloc (.cells #[.bool b6,.slice a6 l6 k6,.slice a6' l6' k6'] 34);have hLA:=HLS.out.ext (e6.trans hA);have hb7:=ownsRow_extI HLB.out (e6.trans hA);have hb7':=(ownsRow_growN hLA.2 hg7).elim (fun h=>ownsRow_extI hb7 h) (fun⟨_,_,h1,h2⟩=>ownsRow_chgT hb7 h2 h1 (by decide));have hE7:Ext w4 w7:=((hE0.trans e6).trans hA).stepG hg7 (fun g hg=>by have:=HLS.out.ge g hg;omega);have hw7:=hE7.size)
    | (at_builtin;go_loud (refine wpList_append_V rfl _ _ 48 rfl 4 1 S0 Tryz.underlying48 (by kernel_rfl) (by kernel_rfl) _ vs.length vb rfl (ownsRow_extI hb7' ((Ext.refl _).alloc _)) ⟨w7.heap.size,0,none⟩ (.bool true) rfl (cell_one_new _ _ _) rfl (by omega) (by omega) (by rw[alloc_size];omega) ?_);intro g'' cap2'' w8 hls8 hg8 hwh8 hlt8)
    |fail)
   go_roundw
   case rel=>
    have hA2:=(Ext.refl w7).alloc (.cells #[.bool true] 4);have hb8:=ownsRow_extI hb7' hA2
    have hO7:OL 34 3 S0 (FrK S0 6) w7 (.slice (some ⟨g',0,none⟩) (vs.length+1) cap2') ((ys.take vs.length).map (fun z:Int=>(z:Rat))++ [(z:Rat)]):=
     OL.app (w:=w6.alloc (.cells #[.bool b6,.slice a6 l6 k6,.slice a6' l6' k6'] 34)) HV.out.1 (fun i u y h1 h2=>(HV.out.2 i u y h1 h2).ext (e6.trans hA)) hls7 (fun u y h=>FrK.grow h hLA hg7) (FrK.grow (HR6.out.ext hA) hLA hg7)
    have hO8:=hO7.ext hA2 (fun u y h=>FrK.ext h hA2);refine⟨vs.length+1,some ⟨g',0,none⟩,some ⟨g'',0,none⟩,cap2',cap2'',by omega,by simp,rfl,rfl,Lib.hid ?_,Lib.hid ?_,(hE7.trans hA2).stepG hg8 (fun g hg=>by have:=ownsRow_ge HLB.out g hg;omega)⟩
    ·rw[HTK.out,List.map_append]
     show OL _ _ _ _ _ _ (_++ [(z:Rat)])
     rcases ownsRow_growO hb8 hg8 with h |⟨gb,cb,h1,h2⟩
     ·exact hO8.ext h (fun u y k=>FrK.ext k h)
     ·obtain⟨us,k1,k2,k3⟩:=hO8;exact⟨us,k1.chgT h2 h1 (by decide),k2,fun i u y m1 m2=>⟨(k3 i u y m1 m2).1.chgB h2 h1 (by decide),(k3 i u y m1 m2).2⟩⟩
    ·rw[show List.replicate (vs.length+1) true=List.replicate vs.length true++ [true]from List.replicate_succ'];exact OV.app (w:=w7) HB.out.1 HB.out.2 HBI.out.symm hls8 (fun u y h=>h) rfl
   case measure=>simp [intOf];omega
open Go.ChangeShapes Go.WideShapes Go.ChangeAt
section
variable {H:Type} {enc:TypeId×Value→H} {w:World} {base:Nat} {spare:Nat→Bool} {held:Bool}
theorem open_int641{fuel:Nat}{cs:List Value}{x:DataW H×List MemPlace}(h:DataW.trod enc Tryz.prog w base spare held fuel 2 cs=some x):∃k,cs=[.int .i64 k]∧(Lit.int .i64 k).wf=true:=by
 cases fuel with
 |zero=>simp [DataW.trod]at h
 |succ n=>
  unfold DataW.trod at h;rw[Tryz.underlying2]at h
  rcases cs with _ |⟨c,_ |⟨c2,cs⟩⟩<;>(try cases c)<;>simp at h
  obtain⟨⟨rfl,hw⟩,h2⟩:=h;exact⟨_,rfl,hw⟩
theorem cellsInt64:Tryz.prog.cellsOf 2=1:=by kernel_rfl
theorem open_int64sS{v:Value}{d:DataW H}{p:List MemPlace}{W0:World}{b0:Nat}(hv:Value.okWide Tryz.prog W0 .any b0 59 v)(h:DataW.Trod enc Tryz.prog w base spare held 59 v d p)(B:Nat)(hb:B≤4611686018427387903)(hB:∀n∈d.weights Tryz.prog 59,n≤B):
  ∃l,I64 w v l∧l.length*Tryz.prog.bytesOf 2≤B:=by
 obtain⟨a,n,c,rfl⟩:=okWide_slice Tryz.underlying59 hv;obtain⟨fuel,hf⟩:=h
 obtain⟨v',ys,h1,h2,h3, -⟩:=open_ones (R:=fun _ v z=>v= .int .i64 z∧ -9223372036854775808≤z∧z≤9223372036854775807) (F:=fun _ _=>True) B Tryz.underlying59 cellsInt64 (fun fuel v x hw hx=>by
  obtain⟨k,h1,h2⟩:=open_int641 hx
  cases h1
  exact⟨k,⟨rfl,bounds_i64 h2⟩,trivial⟩) hB hf
 have hcs:(Value.slice a n c).cells.toList=[Value.slice a n c]:=rfl
 rw[hcs]at h1
 cases h1
 exact⟨ys,h2,h3⟩
end
theorem combV_le{C:List CR}{Q:List Rat}{s:Int}(h:∀c∈C,c.2.1.length≤30)(hC:C.length≤12):(combV C Q s).2.1.length≤360:=by
 have h1:=catN_len (ys:=Q) (rows:=termsC C) (N:=30) (by
  intro r hr;obtain⟨c,hc,rfl⟩:=List.mem_map.1 hr
  exact h c hc) C.length
 have h2:=mkV_len (catN Q (termsC C) C.length)
 show(mkV (catN Q (termsC C) C.length)).length≤360
 omega
set_option maxHeartbeats 32000000 in
theorem consOnce_calls(v t:Value)(c:CE)(xl:List RE)(w:World)(hv:CnE w v c)(ht:SLQ w t xl):
  Calls Tryz.prog 9 #[v,t] w fun e w'=>e= .returned (.bool true)∧Ext w w':=by
 have HV:=Lib.hid hv;obtain⟨ax,nx,px,bbx,a1x,n1x,c1x,a2x,n2x,c2x,rfl, -, -⟩:=hv;have HT:=Lib.hid ht
 have lim:(100000:Nat)≤LIM:=by rw[LIM_eq];omega
 clear ht;obtain⟨w1,hw1,e1,b1_,s1⟩:=alloc1 w #[.int .i64 c.1,.slice ax nx px,.bool bbx,.slice a1x n1x c1x,.slice a2x n2x c2x] 36
 go_enter Tryz.func9,Tryz.ntmps9
 go_wp2_with fail;rw[←hw1];refine(speaksc_calls w1).mono ?_;rintro e w2 ⟨rfl,e2⟩;have E2:=e1.trans e2;have P2:=b1_.ext e2;have hp0:=P2.cell 0;have hp1:=P2.cell 1;have hp2:=P2.cell 2;have hp3:=P2.cell 3;have hp4:=P2.cell 4;clear hw1 b1_ e1 e2;obtain⟨w3,hw3,e3,bx3,s3⟩:=alloc1 w2 #[.int .i64 c.1,.slice ax nx px,.bool bbx,.slice a1x n1x c1x,.slice a2x n2x c2x] 36;have E3:=E2.trans e3;have L3:=cle_new1 bx3 (HV.out.ext E3);go_wp2_with fail;rw[←hw3];refine(greatC_calls _ [c] w3 L3 (by simp)).mono ?_;rintro e w4 ⟨rfl,e4⟩;have E4:=E3.trans e4;have P4:=(P2.ext e3).ext e4;clear hw3 hp0 hp1 hp2 hp3 hp4 bx3 s3 P2 L3 E2 E3 e3 e4;obtain⟨p,hp⟩:∃p,p=greatC [c]:=⟨_,rfl⟩;rw[←hp];have HP:=Lib.hid hp;clear hp
 cases p with
 |true=>
  go_wp2;go_ret;exact⟨rfl,E4⟩
 |false=>
 go_wp2_with fail;refine(greatAll_calls _ xl w4 (HT.out.ext E4)).mono ?_;rintro e w5 ⟨rfl,e5⟩;have E5:=E4.trans e5;have P5:=P4.ext e5;clear E4 P4 e5;obtain⟨r,hr⟩:∃r,r=greatE xl:=⟨_,rfl⟩;rw[←hr];have HR:=Lib.hid hr;clear hr
 cases r with
 |true=>
  go_wp2;go_ret;exact⟨rfl,E5⟩
 |false=>
 obtain⟨⟨-,la⟩, -,fa⟩:=great_in (c:=c) HP.out.symm (by simp);obtain⟨y1,y2⟩:=greatE_not HR.out.symm;have FA:=Lib.hid (fun(w':World) (h:Ext w w')=>fa (HV.out.ext h));obtain⟨X,hX⟩:∃X,X=xl.map ratE:=⟨_,rfl⟩;have TX:=Lib.hid (show∀(w':World),Ext w w'→QL 6 w' t X from fun w' h=>by rw[hX];exact(HT.out.ext h).ql 6 (by omega) (by omega) y2)
 have SA:Hid ((ratC c).1=c.1):=Lib.hid rfl
 obtain⟨C,hC⟩:∃C,C=ratC c:=⟨_,rfl⟩;rw[←hC]at FA la SA;clear fa HP HR y1 y2 hX hC;have P:=P5;have hp0:=P.cell 0;have hp1:=P.cell 1;have hp2:=P.cell 2;have hp3:=P.cell 3;have hp4:=P.cell 4;go_wp2_with fail;refine(sense11_calls c.1 w5).mono ?_;rintro e w6 ⟨rfl,e6⟩;have E6:=E5.trans e6;have P6:=P5.ext e6;clear E5 P5 P e6 hp0 hp1 hp2 hp3 hp4;obtain⟨r,hr⟩:∃r,r=sens c.1:=⟨_,rfl⟩;rw[←hr];have HR:=Lib.hid hr;clear hr
 cases r with
 |false=>
  go_wp2;go_ret;exact⟨rfl,E6⟩
 |true=>
 have HS:Hid (sens C.1=true):=Lib.hid (by rw[SA.out];exact HR.out.symm)
 have hc0:c.1≠0:=fun h=>by have:=HR.out;rw[h]at this;cases this
 have HLA:=Lib.hid la
 have HCL:∀{w':World} {g:Nat},Ext w6 w'→Bx 36 w' g #[.int .i64 c.1,.slice ax nx px,.bool bbx,.slice a1x n1x c1x,.slice a2x n2x c2x]→CL 6 w' (.slice (some ⟨g,0,none⟩) 1 1) [C]:=fun h hb=>cl_one (c:=C) (by rw[SA.out];exact hb) (by rw[SA.out];exact FA.out _ (E6.trans h))
 have HCL2:∀{w':World} {g:Nat},Ext w6 w'→Bx 36 w' g #[.int .i64 c.1,.slice ax nx px,.bool bbx,.slice a1x n1x c1x,.slice a2x n2x c2x,.int .i64 c.1,.slice ax nx px,.bool bbx,.slice a1x n1x c1x,.slice a2x n2x c2x]→CL 6 w' (.slice (some ⟨g,0,none⟩) 2 2) [C,C]:=fun h hb=>cl_two (c:=C) (by rw[SA.out];exact hb) (by rw[SA.out];exact FA.out _ (E6.trans h))
 clear HR;go_wp2_with fail
 have hT5:TCn (TZ [⟨10,36,5,#[.int .i64 0,.slice none 0 0,.bool false,.slice none 0 0,.slice none 0 0]⟩]):=by
  intro x hx;simp only[TZ,List.map_cons,List.map_nil,List.mem_singleton]at hx;rw[hx]
 have hN5:((36:TypeId),(#[.int .i64 c.1,.slice ax nx px,.bool bbx,.slice a1x n1x c1x,.slice a2x n2x c2x]:Array Value))∉TZ [⟨10,36,5,#[.int .i64 0,.slice none 0 0,.bool false,.slice none 0 0,.slice none 0 0]⟩]:=by
  intro hx;simp only[TZ,List.map_cons,List.map_nil,List.mem_singleton,Prod.mk.injEq,true_and,Array.mk.injEq,List.cons.injEq,Value.int.injEq]at hx;exact hc0 hx.1
 refine wp_region_alz [⟨10,36,5,#[.int .i64 0,.slice none 0 0,.bool false,.slice none 0 0,.slice none 0 0]⟩] [⟨11,⟨10,36,5,#[.int .i64 0,.slice none 0 0,.bool false,.slice none 0 0,.slice none 0 0]⟩,PZ.cnO hT5 (max 241 9) (combV [C] [((1:Int):Rat)] C.1)⟩] [PZ.val (.agg #[.int .i64 c.1,.slice ax nx px,.bool bbx,.slice a1x n1x c1x,.slice a2x n2x c2x]),PZ.blk 36 1 #[.int .i64 c.1,.slice ax nx px,.bool bbx,.slice a1x n1x c1x,.slice a2x n2x c2x] hN5,PZ.frQ hT5 ((1:Int):Rat),PZ.one1 hT5 ((1:Int):Rat),PZ.val (.pointer (some ⟨w.heap.size,0,none⟩)),PZ.val (.int .i64 c.1),PZ.tupC hT5 (max 241 9) (combV [C] [((1:Int):Rat)] C.1),PZ.tupC hT5 (max 241 9) (combV [C] [((1:Int):Rat)] C.1),PZ.cnO hT5 (max 241 9) (combV [C] [((1:Int):Rat)] C.1),PZ.val (.int .i64 0),PZ.any,PZ.any,PZ.val (.int .i64 0)]
  (by kernel_rfl) (by kernel_rfl) (fun f=>(by simp only[fillR,fillL,List.setIfInBounds_toArray,List.set_cons_succ,List.set_cons_zero,Nat.reduceAdd];rfl)) ?_ ?_ ?_ ?_ ?_
 ·intro x hx;simp only[List.mem_cons,List.not_mem_nil,or_false]at hx;rcases hx with rfl
  ·exact⟨rfl,rfl,rfl⟩
 ·intro x hx;simp only[List.mem_cons,List.not_mem_nil,or_false]at hx;rcases hx with rfl<;>exact ⟨rfl,rfl,by simp⟩
 ·intro x hx y hy h;simp only[List.mem_cons,List.not_mem_nil,or_false]at hx hy;rcases hx with rfl<;>rcases hy with rfl
  ·exact absurd rfl h
 ·refine⟨?_,?_,?_,?_,?_,?_,?_,?_,?_,?_,?_,?_,?_,trivial⟩
  ·intro f w2 hE hp;have hS:=hE.size;change OpGoal _ _ _ f w2 Ext _;exact og_load (P:=Tryz.prog) _ _ w.heap.size _ _ _ rfl rfl rfl (P6.ext hE) Tryz.underlying36 rfl (by kernel_rfl) rfl
  ·intro f w2 hE hp;have hS:=hE.size
   have q25:f 0= .agg #[.int .i64 c.1,.slice ax nx px,.bool bbx,.slice a1x n1x c1x,.slice a2x n2x c2x]:=tellZ hp 0 0 rfl rfl rfl
   change OpGoal _ _ _ f w2 Ext _;change OpGoal _ _ _ f w2 Ext _;exact og_buildSlice (P:=Tryz.prog) 22 36 1 5 _ [.agg #[.int .i64 c.1,.slice ax nx px,.bool bbx,.slice a1x n1x c1x,.slice a2x n2x c2x]] rfl rfl Tryz.underlying22 (by kernel_rfl) (by kernel_rfl) (by simp only[Act.eval];exact congrArg (fun z=> [(0,z)]) q25) rfl (by omega) (by omega) (by omega) (by simp only[List.mem_cons,List.not_mem_nil,or_false,forall_eq_or_imp,forall_eq];first |rfl |exact ⟨rfl,rfl⟩) (fun w' h hb=>⟨_,rfl,hb⟩)
  ·intro f w2 hE hp;have hS:=hE.size;change OpGoal _ _ _ f w2 Ext _;refine oC #[.int .i64 1] Tryz.func41 rfl rfl ?_;refine(wholec_calls 1 _ (by omega) (by omega)).mono ?_;rintro e w' ⟨v',rfl,h1,h2⟩;exact⟨v',rfl,h2,h1.mono hS⟩
  ·intro f w2 hE hp;have hS:=hE.size;have q27:=tellZ hp 0 2 rfl rfl rfl;change OpGoal _ _ _ f w2 Ext _;change OpGoal _ _ _ f w2 Ext _;obtain⟨bq,a1q,n1q,c1q,a2q,n2q,c2q,hvq,hqq⟩:=FrQ.opn q27;exact og_buildSlice (P:=Tryz.prog) 23 34 1 3 _ [.agg #[.bool bq,.slice a1q n1q c1q,.slice a2q n2q c2q]] rfl rfl Tryz.underlying23 (by kernel_rfl) (by kernel_rfl) (by simp only[Act.eval];exact congrArg (fun z=> [(0,z)]) hvq) rfl (by omega) (by omega) (by omega) (by simp only[List.mem_cons,List.not_mem_nil,or_false,forall_eq_or_imp,forall_eq];first |rfl |exact ⟨rfl,rfl⟩) (fun w' h hb=>⟨_,_,_,_,_,_,_,_,rfl,hb,hqq.ext h⟩)
  ·intro f w2 hE hp;have hS:=hE.size;change OpGoal _ _ _ f w2 Ext _;simp only[OpGoal];go_simp;exact⟨_,rfl,Ext.refl _,rfl⟩
  ·intro f w2 hE hp;have hS:=hE.size
   have q29:f 4= .pointer (some ⟨w.heap.size,0,none⟩):=tellZ hp 0 4 rfl rfl rfl
   have hcell:=(P6.ext hE).cell 0;change OpGoal _ _ _ f w2 Ext _;simp only[OpGoal];go_simp;exact⟨_,rfl,Ext.refl _,rfl⟩
  ·intro f w2 hE hp;have hS:=hE.size;have q26:=tellZ hp 0 1 rfl rfl rfl;have q28:=tellZ hp 1 3 rfl rfl rfl
   have q30:f 5= .int .i64 c.1:=tellZ hp 2 5 rfl rfl rfl
   change OpGoal _ _ _ f w2 Ext _;refine oC #[f 1,f 3,f 5] Tryz.func20 rfl rfl ?_;rw[q30];obtain⟨g26,hu26,hb26⟩:=q26;obtain⟨g28,hu28,hql⟩:=One1.ql (k:=1) q28 szQ_int1 (by omega);rw[hu26];refine(combine_calls 6 1 30 1 241 9 _ _ [C] [((1:Int):Rat)] c.1 _ (HCL hE hb26) hql (fun c hc=>by rw[List.mem_singleton.1 hc];exact HLA.out) (by simp) (by omega) (by omega) (by omega) (by omega) (by omega) (by omega)).mono ?_;rintro e w' ⟨v',rfl,e7,hok, -⟩;have h0:=once_e HS.out;rw[SA.out]at h0;exact⟨_,rfl,e7,v',by rw[h0],by have:=hok h0;rw[SA.out];exact this.mono hS⟩
  ·intro f w2 hE hp;have hS:=hE.size;have q31:=tellZ hp 0 6 rfl rfl rfl;change OpGoal _ _ _ f w2 Ext _;exact⟨_,rfl,Ext.refl _,q31⟩
  ·intro f w2 hE hp;have hS:=hE.size;have q24:=tellZ hp 0 7 rfl rfl rfl;change OpGoal _ _ _ f w2 Ext _;obtain⟨u,hu,ho⟩:=q24;simp only[OpGoal];go_simp;exact⟨_,rfl,Ext.refl _,ho⟩
  ·intro f w2 hE hp;have hS:=hE.size;have q24:=tellZ hp 0 7 rfl rfl rfl;change OpGoal _ _ _ f w2 Ext _;obtain⟨u,hu,ho⟩:=q24;simp only[OpGoal];go_simp;exact⟨_,rfl,Ext.refl _,rfl⟩
  ·intro f w2 hE hp;have hS:=hE.size;change OpGoal _ _ _ f w2 (fun a b=>b=a.alloc _) _;exact og_alloc (P:=Tryz.prog) _ _ (.agg #[.int .i64 0,.slice none 0 0,.bool false,.slice none 0 0,.slice none 0 0]) rfl rfl (by kernel_rfl) rfl
  ·intro f w2 hE hp;have hS:=hE.size;have q32:=tellZ hp 1 8 rfl rfl rfl;intro g hfa hSg hbx;change OpGoal _ _ _ f w2 (Chg g) _;obtain⟨cells,hv,hcs,hc1⟩:=CnO.partsz q32;exact og_storeZ (P:=Tryz.prog) (PZ.cnO hT5 (max 241 9) (combV [C] [((1:Int):Rat)] C.1)) 5 _ _ _ g _ _ cells rfl rfl hfa hv hbx (by rw[hcs];kernel_rfl) rfl hcs hc1 hSg (by simp[TZ]) (hv▸q32)
  ·intro f w2 hE hp;have hS:=hE.size
   have q33:f 9= .int .i64 0:=tellZ hp 0 9 rfl rfl rfl
   change OpGoal _ _ _ f w2 Ext _;simp only[OpGoal];go_simp;exact⟨_,rfl,Ext.refl _,rfl⟩
 ·intro f w7 hE hp hal;obtain⟨ga5,ca5,fa5,la5,ba5,na5,pa5⟩:=hal ⟨10,36,5,#[.int .i64 0,.slice none 0 0,.bool false,.slice none 0 0,.slice none 0 0]⟩ (by simp) (by decide)
  dsimp only at fa5 la5 ba5 na5
  have za5:=pa5 ⟨11,⟨10,36,5,#[.int .i64 0,.slice none 0 0,.bool false,.slice none 0 0,.slice none 0 0]⟩,PZ.cnO hT5 (max 241 9) (combV [C] [((1:Int):Rat)] C.1)⟩ (by simp) (by show 11<13;decide) rfl rfl;clear pa5
  have q6:f 12= .int .i64 0:=endZ hp 12 (by decide) rfl rfl
  try simp only[q6]
  clear hp hal;simp only[fa5];obtain⟨a8,n8,p8,b8,a18,n18,c18,a28,n28,c28,hv8,ht8,hr8,hz8⟩:=(za5:CnO w6.heap.size (max 241 9) w7 (.agg ca5) (combV [C] [((1:Int):Rat)] C.1));rw[once_v]at hv8 ht8 hr8 hz8
  cases hv8
  have HO8:=Lib.hid (show CnE w7 (.agg #[.int .i64 (formC C).1,.slice a8 n8 p8,.bool b8,.slice a18 n18 c18,.slice a28 n28 c28]) (fmC (formC C))from CnO.cnE (k:=max 241 9) ⟨a8,n8,p8,b8,a18,n18,c18,a28,n28,c28,rfl,ht8,hr8,hz8⟩ (by omega));have E7:=E6.trans hE;have P7:=P6.ext hE;have h67:=Lib.hid hE;clear ht8 hr8 hz8 hE hT5 hN5 E6 P6;go_wp2_with fail
  have hT6:TCn (TZ [⟨12,36,5,#[.int .i64 0,.slice none 0 0,.bool false,.slice none 0 0,.slice none 0 0]⟩]):=by
   intro x hx;simp only[TZ,List.map_cons,List.map_nil,List.mem_singleton]at hx;rw[hx]
  have hN6:((36:TypeId),(#[.int .i64 c.1,.slice ax nx px,.bool bbx,.slice a1x n1x c1x,.slice a2x n2x c2x,.int .i64 c.1,.slice ax nx px,.bool bbx,.slice a1x n1x c1x,.slice a2x n2x c2x]:Array Value))∉TZ [⟨12,36,5,#[.int .i64 0,.slice none 0 0,.bool false,.slice none 0 0,.slice none 0 0]⟩]:=by
   intro hx;simp only[TZ,List.map_cons,List.map_nil,List.mem_singleton,Prod.mk.injEq,true_and]at hx
   have:=congrArg Array.size hx
   simp at this
  refine wp_region_alz [⟨12,36,5,#[.int .i64 0,.slice none 0 0,.bool false,.slice none 0 0,.slice none 0 0]⟩] [⟨13,⟨12,36,5,#[.int .i64 0,.slice none 0 0,.bool false,.slice none 0 0,.slice none 0 0]⟩,PZ.cnO hT6 (max 481 17) (combV [C,C] [((1:Int):Rat),((1:Int):Rat)] C.1)⟩] [PZ.val (.agg #[.int .i64 c.1,.slice ax nx px,.bool bbx,.slice a1x n1x c1x,.slice a2x n2x c2x]),PZ.val (.agg #[.int .i64 c.1,.slice ax nx px,.bool bbx,.slice a1x n1x c1x,.slice a2x n2x c2x]),PZ.blk 36 2 #[.int .i64 c.1,.slice ax nx px,.bool bbx,.slice a1x n1x c1x,.slice a2x n2x c2x,.int .i64 c.1,.slice ax nx px,.bool bbx,.slice a1x n1x c1x,.slice a2x n2x c2x] hN6,PZ.frQ hT6 ((1:Int):Rat),PZ.frQ hT6 ((1:Int):Rat),PZ.two2 hT6 ((1:Int):Rat) ((1:Int):Rat),PZ.val (.pointer (some ⟨w.heap.size,0,none⟩)),PZ.val (.int .i64 c.1),PZ.tupC hT6 (max 481 17) (combV [C,C] [((1:Int):Rat),((1:Int):Rat)] C.1),PZ.tupC hT6 (max 481 17) (combV [C,C] [((1:Int):Rat),((1:Int):Rat)] C.1),PZ.cnO hT6 (max 481 17) (combV [C,C] [((1:Int):Rat),((1:Int):Rat)] C.1),PZ.val (.int .i64 0),PZ.any,PZ.any,PZ.val (.int .i64 0)]
   (by kernel_rfl) (by kernel_rfl) (fun f=>(by simp only[fillR,fillL,List.setIfInBounds_toArray,List.set_cons_succ,List.set_cons_zero,Nat.reduceAdd];rfl)) ?_ ?_ ?_ ?_ ?_
  ·intro x hx;simp only[List.mem_cons,List.not_mem_nil,or_false]at hx;rcases hx with rfl
   ·exact⟨rfl,rfl,rfl⟩
  ·intro x hx;simp only[List.mem_cons,List.not_mem_nil,or_false]at hx;rcases hx with rfl<;>exact ⟨rfl,rfl,by simp⟩
  ·intro x hx y hy h;simp only[List.mem_cons,List.not_mem_nil,or_false]at hx hy;rcases hx with rfl<;>rcases hy with rfl
   ·exact absurd rfl h
  ·refine⟨?_,?_,?_,?_,?_,?_,?_,?_,?_,?_,?_,?_,?_,?_,?_,trivial⟩
   ·intro f w2 hE hp;have hS:=hE.size;change OpGoal _ _ _ f w2 Ext _;exact og_load (P:=Tryz.prog) _ _ w.heap.size _ _ _ rfl rfl rfl (P7.ext hE) Tryz.underlying36 rfl (by kernel_rfl) rfl
   ·intro f w2 hE hp;have hS:=hE.size;change OpGoal _ _ _ f w2 Ext _;exact og_load (P:=Tryz.prog) _ _ w.heap.size _ _ _ rfl rfl rfl (P7.ext hE) Tryz.underlying36 rfl (by kernel_rfl) rfl
   ·intro f w2 hE hp;have hS:=hE.size
    have q35:f 0= .agg #[.int .i64 c.1,.slice ax nx px,.bool bbx,.slice a1x n1x c1x,.slice a2x n2x c2x]:=tellZ hp 0 0 rfl rfl rfl
    have q36:f 1= .agg #[.int .i64 c.1,.slice ax nx px,.bool bbx,.slice a1x n1x c1x,.slice a2x n2x c2x]:=tellZ hp 1 1 rfl rfl rfl
    change OpGoal _ _ _ f w2 Ext _;change OpGoal _ _ _ f w2 Ext _;exact og_buildSlice (P:=Tryz.prog) 22 36 2 5 _ [.agg #[.int .i64 c.1,.slice ax nx px,.bool bbx,.slice a1x n1x c1x,.slice a2x n2x c2x],.agg #[.int .i64 c.1,.slice ax nx px,.bool bbx,.slice a1x n1x c1x,.slice a2x n2x c2x]] rfl rfl Tryz.underlying22 (by kernel_rfl) (by kernel_rfl) (by simp only[Act.eval];rw[q35,q36];rfl) rfl (by omega) (by omega) (by omega) (by simp only[List.mem_cons,List.not_mem_nil,or_false,forall_eq_or_imp,forall_eq];first |rfl |exact ⟨rfl,rfl⟩) (fun w' h hb=>⟨_,rfl,hb⟩)
   ·intro f w2 hE hp;have hS:=hE.size;change OpGoal _ _ _ f w2 Ext _;refine oC #[.int .i64 1] Tryz.func41 rfl rfl ?_;refine(wholec_calls 1 _ (by omega) (by omega)).mono ?_;rintro e w' ⟨v',rfl,h1,h2⟩;exact⟨v',rfl,h2,h1.mono hS⟩
   ·intro f w2 hE hp;have hS:=hE.size;change OpGoal _ _ _ f w2 Ext _;refine oC #[.int .i64 1] Tryz.func41 rfl rfl ?_;refine(wholec_calls 1 _ (by omega) (by omega)).mono ?_;rintro e w' ⟨v',rfl,h1,h2⟩;exact⟨v',rfl,h2,h1.mono hS⟩
   ·intro f w2 hE hp;have hS:=hE.size;have q38:=tellZ hp 0 3 rfl rfl rfl;have q39:=tellZ hp 1 4 rfl rfl rfl;change OpGoal _ _ _ f w2 Ext _;change OpGoal _ _ _ f w2 Ext _;obtain⟨bq,a1q,n1q,c1q,a2q,n2q,c2q,hvq,hqq⟩:=FrQ.opn q38;obtain⟨br,a1r,n1r,c1r,a2r,n2r,c2r,hvr,hqr⟩:=FrQ.opn q39;exact og_buildSlice (P:=Tryz.prog) 23 34 2 3 _ [.agg #[.bool bq,.slice a1q n1q c1q,.slice a2q n2q c2q],.agg #[.bool br,.slice a1r n1r c1r,.slice a2r n2r c2r]] rfl rfl Tryz.underlying23 (by kernel_rfl) (by kernel_rfl) (by simp only[Act.eval];rw[hvq,hvr];rfl) rfl (by omega) (by omega) (by omega) (by simp only[List.mem_cons,List.not_mem_nil,or_false,forall_eq_or_imp,forall_eq];first |rfl |exact ⟨rfl,rfl⟩) (fun w' h hb=>⟨_,_,_,_,_,_,_,_,_,_,_,_,_,_,_,rfl,hb,hqq.ext h,hqr.ext h⟩)
   ·intro f w2 hE hp;have hS:=hE.size;change OpGoal _ _ _ f w2 Ext _;simp only[OpGoal];go_simp;exact⟨_,rfl,Ext.refl _,rfl⟩
   ·intro f w2 hE hp;have hS:=hE.size
    have q41:f 6= .pointer (some ⟨w.heap.size,0,none⟩):=tellZ hp 0 6 rfl rfl rfl
    have hcell:=(P7.ext hE).cell 0;change OpGoal _ _ _ f w2 Ext _;simp only[OpGoal];go_simp;exact⟨_,rfl,Ext.refl _,rfl⟩
   ·intro f w2 hE hp;have hS:=hE.size;have q37:=tellZ hp 0 2 rfl rfl rfl;have q40:=tellZ hp 1 5 rfl rfl rfl
    have q42:f 7= .int .i64 c.1:=tellZ hp 2 7 rfl rfl rfl
    change OpGoal _ _ _ f w2 Ext _;refine oC #[f 2,f 5,f 7] Tryz.func20 rfl rfl ?_;rw[q42];obtain⟨g37,hu37,hb37⟩:=q37;obtain⟨g40,hu40,hql⟩:=Two2.ql (k:=1) q40 szQ_int1 szQ_int1 (by omega);rw[hu37];refine(combine_calls 6 1 30 2 481 17 _ _ [C,C] [((1:Int):Rat),((1:Int):Rat)] c.1 _ (HCL2 (h67.out.trans hE) hb37) hql (fun c hc=>by simp only[List.mem_cons,List.not_mem_nil,or_false,or_self]at hc;rw[hc];exact HLA.out) (by simp) (by omega) (by omega) (by omega) (by omega) (by omega) (by omega)).mono ?_;rintro e w' ⟨v',rfl,e7,hok, -⟩;have h0:=twice_e HS.out;rw[SA.out]at h0;exact⟨_,rfl,e7,v',by rw[h0],by have:=hok h0;rw[SA.out];exact this.mono hS⟩
   ·intro f w2 hE hp;have hS:=hE.size;have q43:=tellZ hp 0 8 rfl rfl rfl;change OpGoal _ _ _ f w2 Ext _;exact⟨_,rfl,Ext.refl _,q43⟩
   ·intro f w2 hE hp;have hS:=hE.size;have q34:=tellZ hp 0 9 rfl rfl rfl;change OpGoal _ _ _ f w2 Ext _;obtain⟨u,hu,ho⟩:=q34;simp only[OpGoal];go_simp;exact⟨_,rfl,Ext.refl _,ho⟩
   ·intro f w2 hE hp;have hS:=hE.size;have q34:=tellZ hp 0 9 rfl rfl rfl;change OpGoal _ _ _ f w2 Ext _;obtain⟨u,hu,ho⟩:=q34;simp only[OpGoal];go_simp;exact⟨_,rfl,Ext.refl _,rfl⟩
   ·intro f w2 hE hp;have hS:=hE.size;change OpGoal _ _ _ f w2 (fun a b=>b=a.alloc _) _;exact og_alloc (P:=Tryz.prog) _ _ (.agg #[.int .i64 0,.slice none 0 0,.bool false,.slice none 0 0,.slice none 0 0]) rfl rfl (by kernel_rfl) rfl
   ·intro f w2 hE hp;have hS:=hE.size;have q44:=tellZ hp 1 10 rfl rfl rfl;intro g hfa hSg hbx;change OpGoal _ _ _ f w2 (Chg g) _;obtain⟨cells,hv,hcs,hc1⟩:=CnO.partsz q44;exact og_storeZ (P:=Tryz.prog) (PZ.cnO hT6 (max 481 17) (combV [C,C] [((1:Int):Rat),((1:Int):Rat)] C.1)) 5 _ _ _ g _ _ cells rfl rfl hfa hv hbx (by rw[hcs];kernel_rfl) rfl hcs hc1 hSg (by simp[TZ]) (hv▸q44)
   ·intro f w2 hE hp;have hS:=hE.size
    have q45:f 11= .int .i64 0:=tellZ hp 0 11 rfl rfl rfl
    change OpGoal _ _ _ f w2 Ext _;simp only[OpGoal];go_simp;exact⟨_,rfl,Ext.refl _,rfl⟩
  ·intro f w8 hE hp hal;obtain⟨ga7,ca7,fa7,la7,ba7,na7,pa7⟩:=hal ⟨12,36,5,#[.int .i64 0,.slice none 0 0,.bool false,.slice none 0 0,.slice none 0 0]⟩ (by simp) (by decide)
   dsimp only at fa7 la7 ba7 na7
   have za7:=pa7 ⟨13,⟨12,36,5,#[.int .i64 0,.slice none 0 0,.bool false,.slice none 0 0,.slice none 0 0]⟩,PZ.cnO hT6 (max 481 17) (combV [C,C] [((1:Int):Rat),((1:Int):Rat)] C.1)⟩ (by simp) (by show 13<15;decide) rfl rfl;clear pa7
   have q8:f 14= .int .i64 0:=endZ hp 14 (by decide) rfl rfl
   try simp only[q8]
   clear hp hal;simp only[fa7];obtain⟨TW,hTW⟩:∃t,t=combV [C,C] [((1:Int):Rat),((1:Int):Rat)] C.1:=⟨_,rfl⟩
   have hTL:TW.2.1.length≤360:=by rw[hTW];exact combV_le (fun c hc=>by simp only[List.mem_cons,List.not_mem_nil,or_false,or_self]at hc;rw[hc];exact HLA.out) (by simp)
   have z7:CnO w7.heap.size (max 481 17) w8 (.agg ca7) TW:=by rw[hTW];exact za7
   have HH:=twice_holds C X;have HFF:=twice_false C;rw[←hTW]at HH HFF;obtain⟨da,hda⟩:∃da,da=holdsC C X:=⟨_,rfl⟩;obtain⟨fa,hfa⟩:∃fa,fa=falseC C:=⟨_,rfl⟩;rw[←hda]at HH;rw[←hfa]at HFF;have HD:=Lib.hid hda;have HD2:=Lib.hid HH;have HF:=Lib.hid hfa;have HF2:=Lib.hid HFF;obtain⟨a9,n9,p9,b9,a19,n19,c19,a29,n29,c29,hv9,ht9,hr9,hz9⟩:=z7
   cases hv9
   have CB:=Lib.hid (show CnR 481 w8 (.agg #[.int .i64 TW.1,.slice a9 n9 p9,.bool b9,.slice a19 n19 c19,.slice a29 n29 c29]) TW from CnO.cnR (k:=max 481 17) (B:=w7.heap.size) ⟨a9,n9,p9,b9,a19,n19,c19,a29,n29,c29,rfl,ht9,hr9,hz9⟩ (by omega) |>.le (by omega));have CA:=Lib.hid (HO8.out.ext hE);have E8:=E7.trans hE;have P8:=P7.ext hE;have T5:=ba5.ext hE;have T7:=ba7;clear za7 ht9 hr9 hz9 hE hT6 hN6 E7 P7 HO8 ba5 ba7 hTW hda hfa HH HFF;go_wp2_with fail;refine wpQ [PP.val (.int .i64 0),PP.val (.bool true),PP.val (.bool true),PP.val (.int .i64 0),PP.val (.bool true),PP.val (.bool true),PP.val (.bool true),PP.val (.agg #[.int .i64 (formC C).1,.slice a8 n8 p8,.bool b8,.slice a18 n18 c18,.slice a28 n28 c28]),PP.val (.agg #[.int .i64 c.1,.slice ax nx px,.bool bbx,.slice a1x n1x c1x,.slice a2x n2x c2x]),PP.cnO 210 (formC C),PP.val (.bool true),PP.val (.bool true),PP.val (.bool true),PP.val (.agg #[.int .i64 TW.1,.slice a9 n9 p9,.bool b9,.slice a19 n19 c19,.slice a29 n29 c29]),PP.val (t),PP.val (.bool da),PP.val (.agg #[.int .i64 c.1,.slice ax nx px,.bool bbx,.slice a1x n1x c1x,.slice a2x n2x c2x]),PP.val (t),PP.val (.bool da),PP.val (.bool true),PP.val (.bool true),PP.val (.bool true),PP.val (.agg #[.int .i64 TW.1,.slice a9 n9 p9,.bool b9,.slice a19 n19 c19,.slice a29 n29 c29]),PP.val (.bool fa),PP.val (.agg #[.int .i64 c.1,.slice ax nx px,.bool bbx,.slice a1x n1x c1x,.slice a2x n2x c2x]),PP.val (.bool fa),PP.val (.bool true),PP.val (.bool true),PP.val (.bool true)] [] [0,1,2,3,4,5,6,7,8,9,10,11,12,13,14,15,16,17,18,19,20,21,22,23,24,25,26,27,28] ?_ ?_
   ·refine⟨?_,?_,?_,?_,?_,?_,?_,?_,?_,?_,?_,?_,?_,?_,?_,?_,?_,?_,?_,?_,?_,?_,?_,?_,?_,?_,?_,?_,?_,trivial⟩
    ·intro f w2 hG hp hl;simp only[OpGoal];go_simp;exact⟨_,rfl,Ext.refl _,rfl⟩
    ·intro f w2 hG hp hl;have q46:=tE hp 0 0 rfl rfl rfl;simp only[OpGoal];go_simp;exact⟨_,rfl,Ext.refl _,rfl⟩
    ·intro f w2 hG hp hl;have q47:=tE hp 0 1 rfl rfl rfl;simp only[OpGoal];go_simp;exact⟨_,rfl,Ext.refl _,rfl⟩
    ·intro f w2 hG hp hl;have qg:=tE hp 0 2 rfl rfl rfl;change OpGoal _ _ _ f w2 Ext _;refine og_guard (j:=2) (want:=true) rfl qg ?_;simp only[OpGoal];go_simp;exact⟨_,rfl,Ext.refl _,rfl⟩
    ·intro f w2 hG hp hl;have q49:=tE hp 0 3 rfl rfl rfl;have qg:=tE hp 1 2 rfl rfl rfl;change OpGoal _ _ _ f w2 Ext _;refine og_guard (j:=2) (want:=true) rfl qg ?_;simp only[OpGoal];go_simp;exact⟨_,rfl,Ext.refl _,rfl⟩
    ·intro f w2 hG hp hl;have q48:=tE hp 0 2 rfl rfl rfl;have q50:=tE hp 1 4 rfl rfl rfl;simp only[OpGoal];go_simp;exact⟨_,rfl,Ext.refl _,rfl⟩
    ·intro f w2 hG hp hl;have q51:=tE hp 0 5 rfl rfl rfl;simp only[OpGoal];go_simp;exact⟨_,rfl,Ext.refl _,rfl⟩
    ·intro f w2 hG hp hl;have hE:Ext w8 w2:=hG;have qg:=tE hp 0 6 rfl rfl rfl;change OpGoal _ _ _ f w2 Ext _;refine og_guard (j:=6) (want:=true) rfl qg ?_;change OpGoal _ _ _ f w2 Ext _;exact og_load (P:=Tryz.prog) _ _ ga5 _ _ _ rfl rfl rfl (T5.ext hE) Tryz.underlying36 rfl (by kernel_rfl) rfl
    ·intro f w2 hG hp hl;have hE:Ext w8 w2:=hG;have qg:=tE hp 0 6 rfl rfl rfl;change OpGoal _ _ _ f w2 Ext _;refine og_guard (j:=6) (want:=true) rfl qg ?_;change OpGoal _ _ _ f w2 Ext _;exact og_load (P:=Tryz.prog) _ _ w.heap.size _ _ _ rfl rfl rfl (P8.ext hE) Tryz.underlying36 rfl (by kernel_rfl) rfl
    ·intro f w2 hG hp hl;have hE:Ext w8 w2:=hG;have hS:=hE.size;have q54:=tE hp 0 8 rfl rfl rfl;have qg:=tE hp 1 6 rfl rfl rfl;change OpGoal _ _ _ f w2 Ext _;refine og_guard (j:=6) (want:=true) rfl qg ?_;change OpGoal _ _ _ f w2 Ext _;refine oC #[f 8] Tryz.func34 rfl rfl ?_;rw[q54];refine(cform_calls 6 210 _ C _ (FA.out _ (E8.trans hE)) (by have:=HLA.out;omega) (by have:=HLA.out;omega) (by have:=HLA.out;omega) (by omega)).mono ?_;rintro e w' ⟨v',rfl,h1,h2⟩;exact⟨v',rfl,h2,h1.mono hS⟩
    ·intro f w2 hG hp hl;have hE:Ext w8 w2:=hG;have hS:=hE.size;have q53:=tE hp 0 7 rfl rfl rfl;have q55:=tellV hp 1 9 rfl rfl (fun _=>hE);have qg:=tE hp 3 6 rfl rfl rfl;change OpGoal _ _ _ f w2 Ext _;refine og_guard (j:=6) (want:=true) rfl qg ?_;change OpGoal _ _ _ f w2 Ext _;refine oC #[f 7,f 9] Tryz.func23 rfl rfl ?_;rw[q53];refine(sameCons_true _ _ (fmC (formC C)) _ (CA.out.ext hE) (CnO.cnE q55 (by omega))).mono ?_;rintro e w' ⟨rfl,h2⟩;exact⟨_,rfl,h2,rfl⟩
    ·intro f w2 hG hp hl;have q52:=tE hp 0 6 rfl rfl rfl;have q56:=tE hp 1 10 rfl rfl rfl;simp only[OpGoal];go_simp;exact⟨_,rfl,Ext.refl _,rfl⟩
    ·intro f w2 hG hp hl;have q57:=tE hp 0 11 rfl rfl rfl;simp only[OpGoal];go_simp;exact⟨_,rfl,Ext.refl _,rfl⟩
    ·intro f w2 hG hp hl;have hE:Ext w8 w2:=hG;have qg:=tE hp 0 12 rfl rfl rfl;change OpGoal _ _ _ f w2 Ext _;refine og_guard (j:=12) (want:=true) rfl qg ?_;change OpGoal _ _ _ f w2 Ext _;exact og_load (P:=Tryz.prog) _ _ ga7 _ _ _ rfl rfl rfl (T7.ext hE) Tryz.underlying36 rfl (by kernel_rfl) rfl
    ·intro f w2 hG hp hl;have qg:=tE hp 0 12 rfl rfl rfl;change OpGoal _ _ _ f w2 Ext _;refine og_guard (j:=12) (want:=true) rfl qg ?_;simp only[OpGoal];go_simp;exact⟨_,rfl,Ext.refl _,rfl⟩
    ·intro f w2 hG hp hl;have hE:Ext w8 w2:=hG;have hS:=hE.size;have q59:=tE hp 0 13 rfl rfl rfl;have q60:=tE hp 1 14 rfl rfl rfl;have qg:=tE hp 2 12 rfl rfl rfl;change OpGoal _ _ _ f w2 Ext _;refine og_guard (j:=12) (want:=true) rfl qg ?_;change OpGoal _ _ _ f w2 Ext _;refine oC #[f 13,f 14] Tryz.func39 rfl rfl ?_;rw[q59,q60];refine(holds_calls 481 6 _ _ TW X _ (CB.out.ext hE) (TX.out _ (E8.trans hE)) (by omega)).mono ?_;rintro e w' ⟨rfl,h2⟩
     exact⟨_,rfl,h2,by rw[HD2.out]<;>rfl⟩
    ·intro f w2 hG hp hl;have hE:Ext w8 w2:=hG;have qg:=tE hp 0 12 rfl rfl rfl;change OpGoal _ _ _ f w2 Ext _;refine og_guard (j:=12) (want:=true) rfl qg ?_;change OpGoal _ _ _ f w2 Ext _;exact og_load (P:=Tryz.prog) _ _ w.heap.size _ _ _ rfl rfl rfl (P8.ext hE) Tryz.underlying36 rfl (by kernel_rfl) rfl
    ·intro f w2 hG hp hl;have qg:=tE hp 0 12 rfl rfl rfl;change OpGoal _ _ _ f w2 Ext _;refine og_guard (j:=12) (want:=true) rfl qg ?_;simp only[OpGoal];go_simp;exact⟨_,rfl,Ext.refl _,rfl⟩
    ·intro f w2 hG hp hl;have hE:Ext w8 w2:=hG;have hS:=hE.size;have q62:=tE hp 0 16 rfl rfl rfl;have q63:=tE hp 1 17 rfl rfl rfl;have qg:=tE hp 3 12 rfl rfl rfl;change OpGoal _ _ _ f w2 Ext _;refine og_guard (j:=12) (want:=true) rfl qg ?_;change OpGoal _ _ _ f w2 Ext _;refine oC #[f 16,f 17] Tryz.func39 rfl rfl ?_;rw[q62,q63];refine(holds_calls 6 6 _ _ C X _ (FA.out _ (E8.trans hE)) (TX.out _ (E8.trans hE)) (by have:=HLA.out;omega)).mono ?_;rintro e w' ⟨rfl,h2⟩
     exact⟨_,rfl,h2,by rw[HD.out]<;>rfl⟩
    ·intro f w2 hG hp hl;have q61:=tE hp 0 15 rfl rfl rfl;have q64:=tE hp 1 18 rfl rfl rfl;have qg:=tE hp 2 12 rfl rfl rfl;change OpGoal _ _ _ f w2 Ext _;refine og_guard (j:=12) (want:=true) rfl qg ?_
     cases da<;>(simp only[OpGoal];go_simp;exact⟨_,rfl,Ext.refl _,rfl⟩)
    ·intro f w2 hG hp hl;have q58:=tE hp 0 12 rfl rfl rfl;have q65:=tE hp 1 19 rfl rfl rfl;simp only[OpGoal];go_simp;exact⟨_,rfl,Ext.refl _,rfl⟩
    ·intro f w2 hG hp hl;have q66:=tE hp 0 20 rfl rfl rfl;simp only[OpGoal];go_simp;exact⟨_,rfl,Ext.refl _,rfl⟩
    ·intro f w2 hG hp hl;have hE:Ext w8 w2:=hG;have qg:=tE hp 0 21 rfl rfl rfl;change OpGoal _ _ _ f w2 Ext _;refine og_guard (j:=21) (want:=true) rfl qg ?_;change OpGoal _ _ _ f w2 Ext _;exact og_load (P:=Tryz.prog) _ _ ga7 _ _ _ rfl rfl rfl (T7.ext hE) Tryz.underlying36 rfl (by kernel_rfl) rfl
    ·intro f w2 hG hp hl;have hE:Ext w8 w2:=hG;have hS:=hE.size;have q68:=tE hp 0 22 rfl rfl rfl;have qg:=tE hp 1 21 rfl rfl rfl;change OpGoal _ _ _ f w2 Ext _;refine og_guard (j:=21) (want:=true) rfl qg ?_;change OpGoal _ _ _ f w2 Ext _;refine oC #[f 22] Tryz.func38 rfl rfl ?_;rw[q68];refine(cfalse_calls 481 _ TW _ (CB.out.ext hE) (by omega) (by omega)).mono ?_;rintro e w' ⟨rfl,h2⟩
     exact⟨_,rfl,h2,by rw[HF2.out]<;>rfl⟩
    ·intro f w2 hG hp hl;have hE:Ext w8 w2:=hG;have qg:=tE hp 0 21 rfl rfl rfl;change OpGoal _ _ _ f w2 Ext _;refine og_guard (j:=21) (want:=true) rfl qg ?_;change OpGoal _ _ _ f w2 Ext _;exact og_load (P:=Tryz.prog) _ _ w.heap.size _ _ _ rfl rfl rfl (P8.ext hE) Tryz.underlying36 rfl (by kernel_rfl) rfl
    ·intro f w2 hG hp hl;have hE:Ext w8 w2:=hG;have hS:=hE.size;have q70:=tE hp 0 24 rfl rfl rfl;have qg:=tE hp 2 21 rfl rfl rfl;change OpGoal _ _ _ f w2 Ext _;refine og_guard (j:=21) (want:=true) rfl qg ?_;change OpGoal _ _ _ f w2 Ext _;refine oC #[f 24] Tryz.func38 rfl rfl ?_;rw[q70];refine(cfalse_calls 6 _ C _ (FA.out _ (E8.trans hE)) (by have:=HLA.out;omega) (by have:=HLA.out;omega)).mono ?_;rintro e w' ⟨rfl,h2⟩
     exact⟨_,rfl,h2,by rw[HF.out]<;>rfl⟩
    ·intro f w2 hG hp hl;have q69:=tE hp 0 23 rfl rfl rfl;have q71:=tE hp 1 25 rfl rfl rfl;have qg:=tE hp 2 21 rfl rfl rfl;change OpGoal _ _ _ f w2 Ext _;refine og_guard (j:=21) (want:=true) rfl qg ?_
     cases fa<;>(simp only[OpGoal];go_simp;exact⟨_,rfl,Ext.refl _,rfl⟩)
    ·intro f w2 hG hp hl;have q67:=tE hp 0 21 rfl rfl rfl;have q72:=tE hp 1 26 rfl rfl rfl;simp only[OpGoal];go_simp;exact⟨_,rfl,Ext.refl _,rfl⟩
    ·intro f w2 hG hp hl;have q73:=tE hp 0 27 rfl rfl rfl;simp only[OpGoal];go_simp;exact⟨_,rfl,Ext.refl _,rfl⟩
   ·intro f w9 hG hp;have hE:Ext w8 w9:=ChgS.nil hG
    have q4:f 28= .bool true:=endV hp 28 (by decide) rfl (fun h=>by cases h)
    try simp only[q4]
    clear hp;have X9:=E8.trans hG.nil;go_wp2;go_ret;exact⟨rfl,X9⟩
set_option maxHeartbeats 32000000 in
theorem consCompares_calls(v u t:Value)(a b:CE)(bs:List Bool)(w:World)(hv:CnE w v a)(hu:CnE w u b)(ht:BL w t bs)(hl:bs.length≤140737488355328)(hr: -9223372036854775808≤b.1∧b.1≤9223372036854775807):
  Calls Tryz.prog 4 #[v,u,t] w fun e w'=>e= .returned (.bool true)∧Ext w w':=by
 have HV:=Lib.hid hv;obtain⟨ax,nx,px,bbx,a1x,n1x,c1x,a2x,n2x,c2x,rfl, -, -⟩:=hv;have HU:=Lib.hid hu;obtain⟨ay,ny,py,bby,a1y,n1y,c1y,a2y,n2y,c2y,rfl, -, -⟩:=hu;have HB:=Lib.hid ht;have HL:=Lib.hid hl;have HRG:=Lib.hid hr
 have lim:(100000:Nat)≤LIM:=by rw[LIM_eq];omega
 clear ht hl hr;obtain⟨w1,hw1,e1,b1_,b2_,s1⟩:=alloc2 w #[.int .i64 a.1,.slice ax nx px,.bool bbx,.slice a1x n1x c1x,.slice a2x n2x c2x] #[.int .i64 b.1,.slice ay ny py,.bool bby,.slice a1y n1y c1y,.slice a2y n2y c2y] 36 36
 go_enter Tryz.func4,Tryz.ntmps4
 go_wp2_with fail;rw[←hw1];refine(speaksc_calls w1).mono ?_;rintro e w2 ⟨rfl,e2⟩;have E2:=e1.trans e2;have P2:=b1_.ext e2;have Q2:=b2_.ext e2;have hp0:=P2.cell 0;have hp1:=P2.cell 1;have hp2:=P2.cell 2;have hp3:=P2.cell 3;have hp4:=P2.cell 4;have hq0:=Q2.cell 0;have hq1:=Q2.cell 1;have hq2:=Q2.cell 2;have hq3:=Q2.cell 3;have hq4:=Q2.cell 4;clear hw1 b1_ b2_ e1 e2;obtain⟨w3,hw3,e3,bx3,s3⟩:=alloc1 w2 #[.int .i64 a.1,.slice ax nx px,.bool bbx,.slice a1x n1x c1x,.slice a2x n2x c2x,.int .i64 b.1,.slice ay ny py,.bool bby,.slice a1y n1y c1y,.slice a2y n2y c2y] 36;have E3:=E2.trans e3;have L3:=cle_new2 bx3 (HV.out.ext E3) (HU.out.ext E3);go_wp2_with fail;rw[←hw3];refine(greatC_calls _ [a,b] w3 L3 (by simp)).mono ?_;rintro e w4 ⟨rfl,e4⟩;have E4:=E3.trans e4;have P4:=(P2.ext e3).ext e4;have Q4:=(Q2.ext e3).ext e4;clear hw3 hp0 hp1 hp2 hp3 hp4 hq0 hq1 hq2 hq3 hq4 bx3 s3 P2 Q2 L3 E2 E3 e3 e4;obtain⟨p,hp⟩:∃p,p=greatC [a,b]:=⟨_,rfl⟩;rw[←hp];have HP:=Lib.hid hp;clear hp
 cases p with
 |true=>
  go_wp2;go_ret;exact⟨rfl,E4⟩
 |false=>
 obtain⟨⟨la0,la⟩,⟨la2,la3⟩,fa⟩:=great_in (c:=a) HP.out.symm (by simp);obtain⟨⟨lb0,lb⟩,⟨lb2,lb3⟩,fb⟩:=great_in (c:=b) HP.out.symm (by simp);have FA:=Lib.hid (fun(w':World) (h:Ext w w')=>fa (HV.out.ext h));have FB:=Lib.hid (fun(w':World) (h:Ext w w')=>fb (HU.out.ext h));have GA:=Lib.hid (fun(w':World) (v':Value) (h:CnE w' v' a)=>fa h);have GB:=Lib.hid (fun(w':World) (v':Value) (h:CnE w' v' b)=>fb h);have WA:=Lib.hid (And.intro la0 (And.intro la2 la3));have WB:=Lib.hid (And.intro lb0 (And.intro lb2 lb3));have HR1:Hid (-9223372036854775808≤(ratC b).1∧(ratC b).1≤9223372036854775807):=Lib.hid HRG.out;obtain⟨A,hA⟩:∃A,A=ratC a:=⟨_,rfl⟩;obtain⟨B,hB⟩:∃B,B=ratC b:=⟨_,rfl⟩;rw[←hA]at FA la GA;rw[←hB]at FB lb GB HR1;have LA:=Lib.hid la;have LB:=Lib.hid lb;clear fa fb HP la0 la2 la3 lb0 lb2 lb3 hA hB la lb HRG;go_wp2_with fail
 have hT:TCn (TZ [⟨4,36,5,#[.int .i64 0,.slice none 0 0,.bool false,.slice none 0 0,.slice none 0 0]⟩,⟨5,36,5,#[.int .i64 0,.slice none 0 0,.bool false,.slice none 0 0,.slice none 0 0]⟩]):=by
  intro x hx;simp only[TZ,List.map_cons,List.map_nil,List.mem_cons,List.not_mem_nil,or_false,or_self]at hx;rw[hx]
 refine wp_region_alz [⟨4,36,5,#[.int .i64 0,.slice none 0 0,.bool false,.slice none 0 0,.slice none 0 0]⟩,⟨5,36,5,#[.int .i64 0,.slice none 0 0,.bool false,.slice none 0 0,.slice none 0 0]⟩] [⟨6,⟨4,36,5,#[.int .i64 0,.slice none 0 0,.bool false,.slice none 0 0,.slice none 0 0]⟩,PZ.cnY hT a⟩,⟨7,⟨5,36,5,#[.int .i64 0,.slice none 0 0,.bool false,.slice none 0 0,.slice none 0 0]⟩,PZ.cnY hT b⟩] [PZ.val (.agg #[.int .i64 a.1,.slice ax nx px,.bool bbx,.slice a1x n1x c1x,.slice a2x n2x c2x]),PZ.cnY hT a,PZ.val (.agg #[.int .i64 b.1,.slice ay ny py,.bool bby,.slice a1y n1y c1y,.slice a2y n2y c2y]),PZ.cnY hT b,PZ.any,PZ.any,PZ.any,PZ.any]
  (by kernel_rfl) (by kernel_rfl) (fun f=>(by simp only[fillR,fillL,List.setIfInBounds_toArray,List.set_cons_succ,List.set_cons_zero,Nat.reduceAdd];rfl)) ?_ ?_ ?_ ?_ ?_
 ·intro x hx;simp only[List.mem_cons,List.not_mem_nil,or_false]at hx;rcases hx with rfl |rfl
  ·exact⟨rfl,rfl,rfl⟩
  ·exact⟨rfl,rfl,rfl⟩
 ·intro x hx;simp only[List.mem_cons,List.not_mem_nil,or_false]at hx;rcases hx with rfl |rfl<;>exact ⟨rfl,rfl,by simp⟩
 ·intro x hx y hy h;simp only[List.mem_cons,List.not_mem_nil,or_false]at hx hy;rcases hx with rfl |rfl<;>rcases hy with rfl |rfl
  ·exact absurd rfl h
  ·show 4≠5;decide
  ·show 5≠4;decide
  ·exact absurd rfl h
 ·refine⟨?_,?_,?_,?_,?_,?_,?_,?_,trivial⟩
  ·intro f w2 hE hp;have hS:=hE.size;change OpGoal _ _ _ f w2 Ext _;exact og_load (P:=Tryz.prog) _ _ w.heap.size _ _ _ rfl rfl rfl (P4.ext hE) Tryz.underlying36 rfl (by kernel_rfl) rfl
  ·intro f w2 hE hp;have hS:=hE.size
   have q16:f 0= .agg #[.int .i64 a.1,.slice ax nx px,.bool bbx,.slice a1x n1x c1x,.slice a2x n2x c2x]:=tellZ hp 0 0 rfl rfl rfl
   change OpGoal _ _ _ f w2 Ext _;refine oC #[f 0] Tryz.func27 rfl rfl ?_;rw[q16];refine(copyCons_calls _ a _ (HV.out.ext (E4.trans hE)) (by have:=WA.out.1;omega) WA.out.2.1 WA.out.2.2).mono ?_;rintro e w' ⟨v',rfl,h1,h2⟩;exact⟨v',rfl,h2,h1.mono hS⟩
  ·intro f w2 hE hp;have hS:=hE.size;change OpGoal _ _ _ f w2 Ext _;exact og_load (P:=Tryz.prog) _ _ (w.heap.size+1) _ _ _ rfl rfl rfl (Q4.ext hE) Tryz.underlying36 rfl (by kernel_rfl) rfl
  ·intro f w2 hE hp;have hS:=hE.size
   have q18:f 2= .agg #[.int .i64 b.1,.slice ay ny py,.bool bby,.slice a1y n1y c1y,.slice a2y n2y c2y]:=tellZ hp 0 2 rfl rfl rfl
   change OpGoal _ _ _ f w2 Ext _;refine oC #[f 2] Tryz.func27 rfl rfl ?_;rw[q18];refine(copyCons_calls _ b _ (HU.out.ext (E4.trans hE)) (by have:=WB.out.1;omega) WB.out.2.1 WB.out.2.2).mono ?_;rintro e w' ⟨v',rfl,h1,h2⟩;exact⟨v',rfl,h2,h1.mono hS⟩
  ·intro f w2 hE hp;have hS:=hE.size;change OpGoal _ _ _ f w2 (fun a b=>b=a.alloc _) _;exact og_alloc (P:=Tryz.prog) _ _ (.agg #[.int .i64 0,.slice none 0 0,.bool false,.slice none 0 0,.slice none 0 0]) rfl rfl (by kernel_rfl) rfl
  ·intro f w2 hE hp;have hS:=hE.size;change OpGoal _ _ _ f w2 (fun a b=>b=a.alloc _) _;exact og_alloc (P:=Tryz.prog) _ _ (.agg #[.int .i64 0,.slice none 0 0,.bool false,.slice none 0 0,.slice none 0 0]) rfl rfl (by kernel_rfl) rfl
  ·intro f w2 hE hp;have hS:=hE.size;have q17:=tellZ hp 1 1 rfl rfl rfl;intro g hfa hSg hbx;change OpGoal _ _ _ f w2 (Chg g) _;obtain⟨cells,hv,hcs,hc1⟩:=CnY.partsz q17;exact og_storeZ (P:=Tryz.prog) (PZ.cnY hT a) 5 _ _ _ g _ _ cells rfl rfl hfa hv hbx (by rw[hcs];kernel_rfl) rfl hcs hc1 hSg (by simp[TZ]) (hv▸q17)
  ·intro f w2 hE hp;have hS:=hE.size;have q19:=tellZ hp 1 3 rfl rfl rfl;intro g hfa hSg hbx;change OpGoal _ _ _ f w2 (Chg g) _;obtain⟨cells,hv,hcs,hc1⟩:=CnY.partsz q19;exact og_storeZ (P:=Tryz.prog) (PZ.cnY hT b) 5 _ _ _ g _ _ cells rfl rfl hfa hv hbx (by rw[hcs];kernel_rfl) rfl hcs hc1 hSg (by simp[TZ]) (hv▸q19)
 ·intro f w5 hE hp hal;obtain⟨ga7,ca7,fa7,la7,ba7,na7,pa7⟩:=hal ⟨4,36,5,#[.int .i64 0,.slice none 0 0,.bool false,.slice none 0 0,.slice none 0 0]⟩ (by simp) (by decide)
  dsimp only at fa7 la7 ba7 na7
  have za7:=pa7 ⟨6,⟨4,36,5,#[.int .i64 0,.slice none 0 0,.bool false,.slice none 0 0,.slice none 0 0]⟩,PZ.cnY hT a⟩ (by simp) (by show 6<8;decide) rfl rfl;clear pa7;obtain⟨ga8,ca8,fa8,la8,ba8,na8,pa8⟩:=hal ⟨5,36,5,#[.int .i64 0,.slice none 0 0,.bool false,.slice none 0 0,.slice none 0 0]⟩ (by simp) (by decide)
  dsimp only at fa8 la8 ba8 na8
  have za8:=pa8 ⟨7,⟨5,36,5,#[.int .i64 0,.slice none 0 0,.bool false,.slice none 0 0,.slice none 0 0]⟩,PZ.cnY hT b⟩ (by simp) (by show 7<8;decide) rfl rfl;clear pa8;clear hp hal;simp only[fa7,fa8];obtain⟨a7,n7,p7,b7,a17,n17,c17,a27,n27,c27,hv7,hk7⟩:=(za7:CnY w4.heap.size w5 (.agg ca7) a)
  cases hv7
  obtain⟨a8,n8,p8,b8,a18,n18,c18,a28,n28,c28,hv8,hk8⟩:=(za8:CnY w4.heap.size w5 (.agg ca8) b)
  cases hv8
  have CA:=Lib.hid (CnY.cnE (B:=w4.heap.size) (c:=a) ⟨a7,n7,p7,b7,a17,n17,c17,a27,n27,c27,rfl,hk7⟩);have CB:=Lib.hid (CnY.cnE (B:=w4.heap.size) (c:=b) ⟨a8,n8,p8,b8,a18,n18,c18,a28,n28,c28,rfl,hk8⟩);have E5:=E4.trans hE;have P5:=P4.ext hE;have Q5:=Q4.ext hE;have T7:=ba7;have T8:=ba8;obtain⟨da,hda⟩:∃da,da=domC A B:=⟨_,rfl⟩;obtain⟨sp,hsp⟩:∃sp,sp=splitC A B bs:=⟨_,rfl⟩;have HD:=Lib.hid hda;have HSP:=Lib.hid hsp;clear hk7 hk8 hE hT E4 P4 Q4 ba7 ba8 hda hsp;go_wp2_with fail;refine wpQ [PP.val (.agg #[.int .i64 a.1,.slice a7 n7 p7,.bool b7,.slice a17 n17 c17,.slice a27 n27 c27]),PP.val (.agg #[.int .i64 b.1,.slice a8 n8 p8,.bool b8,.slice a18 n18 c18,.slice a28 n28 c28]),PP.val (.bool da),PP.val (.agg #[.int .i64 a.1,.slice ax nx px,.bool bbx,.slice a1x n1x c1x,.slice a2x n2x c2x]),PP.val (.agg #[.int .i64 b.1,.slice ay ny py,.bool bby,.slice a1y n1y c1y,.slice a2y n2y c2y]),PP.val (.bool da),PP.val (.bool true),PP.val (.bool true),PP.val (.agg #[.int .i64 a.1,.slice a7 n7 p7,.bool b7,.slice a17 n17 c17,.slice a27 n27 c27]),PP.val (.agg #[.int .i64 b.1,.slice a8 n8 p8,.bool b8,.slice a18 n18 c18,.slice a28 n28 c28]),PP.pred (fun u=>∃g,u= .slice (some ⟨g,0,none⟩) 0 0),PP.val (t),PP.bo bs,PP.val (.bool sp),PP.val (.agg #[.int .i64 a.1,.slice ax nx px,.bool bbx,.slice a1x n1x c1x,.slice a2x n2x c2x]),PP.val (.agg #[.int .i64 b.1,.slice ay ny py,.bool bby,.slice a1y n1y c1y,.slice a2y n2y c2y]),PP.val (t),PP.val (.bool sp),PP.val (.bool true),PP.val (.bool true),PP.val (.bool true)] [] [0,1,2,3,4,5,6,7,8,9,10,11,12,13,14,15,16,17,18,19,20] ?_ ?_
  ·refine⟨?_,?_,?_,?_,?_,?_,?_,?_,?_,?_,?_,?_,?_,?_,?_,?_,?_,?_,?_,?_,?_,trivial⟩
   ·intro f w2 hG hp hl;have hE:Ext w5 w2:=hG;change OpGoal _ _ _ f w2 Ext _;exact og_load (P:=Tryz.prog) _ _ ga7 _ _ _ rfl rfl rfl (T7.ext hE) Tryz.underlying36 rfl (by kernel_rfl) rfl
   ·intro f w2 hG hp hl;have hE:Ext w5 w2:=hG;change OpGoal _ _ _ f w2 Ext _;exact og_load (P:=Tryz.prog) _ _ ga8 _ _ _ rfl rfl rfl (T8.ext hE) Tryz.underlying36 rfl (by kernel_rfl) rfl
   ·intro f w2 hG hp hl;have hE:Ext w5 w2:=hG;have hS:=hE.size;have q20:=tE hp 0 0 rfl rfl rfl;have q21:=tE hp 1 1 rfl rfl rfl;change OpGoal _ _ _ f w2 Ext _;refine oC #[f 0,f 1] Tryz.func28 rfl rfl ?_;rw[q20,q21];refine(dominates_calls 6 30 _ _ A B _ (GA.out _ _ (CA.out.ext hE)) (GB.out _ _ (CB.out.ext hE)) LA.out LB.out (by omega) (by omega)).mono ?_;rintro e w' ⟨rfl,h2⟩
    exact⟨_,rfl,h2,by rw[HD.out]<;>rfl⟩
   ·intro f w2 hG hp hl;have hE:Ext w5 w2:=hG;change OpGoal _ _ _ f w2 Ext _;exact og_load (P:=Tryz.prog) _ _ w.heap.size _ _ _ rfl rfl rfl (P5.ext hE) Tryz.underlying36 rfl (by kernel_rfl) rfl
   ·intro f w2 hG hp hl;have hE:Ext w5 w2:=hG;change OpGoal _ _ _ f w2 Ext _;exact og_load (P:=Tryz.prog) _ _ (w.heap.size+1) _ _ _ rfl rfl rfl (Q5.ext hE) Tryz.underlying36 rfl (by kernel_rfl) rfl
   ·intro f w2 hG hp hl;have hE:Ext w5 w2:=hG;have hS:=hE.size;have q23:=tE hp 0 3 rfl rfl rfl;have q24:=tE hp 1 4 rfl rfl rfl;change OpGoal _ _ _ f w2 Ext _;refine oC #[f 3,f 4] Tryz.func29 rfl rfl ?_;rw[q23,q24];refine(dominates11_calls 6 _ _ A B _ (FA.out _ (E5.trans hE)) (FB.out _ (E5.trans hE)) (by omega) (by have:=LA.out;omega) (by have:=LB.out;omega)).mono ?_;rintro e w' ⟨rfl,h2⟩
    exact⟨_,rfl,h2,by rw[HD.out]<;>rfl⟩
   ·intro f w2 hG hp hl;have q22:=tE hp 0 2 rfl rfl rfl;have q25:=tE hp 1 5 rfl rfl rfl
    cases da<;>(simp only[OpGoal];go_simp;exact⟨_,rfl,Ext.refl _,rfl⟩)
   ·intro f w2 hG hp hl;have q26:=tE hp 0 6 rfl rfl rfl;simp only[OpGoal];go_simp;exact⟨_,rfl,Ext.refl _,rfl⟩
   ·intro f w2 hG hp hl;have hE:Ext w5 w2:=hG;have qg:=tE hp 0 7 rfl rfl rfl;change OpGoal _ _ _ f w2 Ext _;refine og_guard (j:=7) (want:=true) rfl qg ?_;change OpGoal _ _ _ f w2 Ext _;exact og_load (P:=Tryz.prog) _ _ ga7 _ _ _ rfl rfl rfl (T7.ext hE) Tryz.underlying36 rfl (by kernel_rfl) rfl
   ·intro f w2 hG hp hl;have hE:Ext w5 w2:=hG;have qg:=tE hp 0 7 rfl rfl rfl;change OpGoal _ _ _ f w2 Ext _;refine og_guard (j:=7) (want:=true) rfl qg ?_;change OpGoal _ _ _ f w2 Ext _;exact og_load (P:=Tryz.prog) _ _ ga8 _ _ _ rfl rfl rfl (T8.ext hE) Tryz.underlying36 rfl (by kernel_rfl) rfl
   ·intro f w2 hG hp hl;have qg:=tE hp 0 7 rfl rfl rfl;change OpGoal _ _ _ f w2 Ext _;refine og_guard (j:=7) (want:=true) rfl qg ?_;exact og_emptyB rfl rfl (fun w' h=>⟨_,rfl⟩)
   ·intro f w2 hG hp hl;have qg:=tE hp 0 7 rfl rfl rfl;change OpGoal _ _ _ f w2 Ext _;refine og_guard (j:=7) (want:=true) rfl qg ?_;simp only[OpGoal];go_simp;exact⟨_,rfl,Ext.refl _,rfl⟩
   ·intro f w2 hG hp hl;have hE:Ext w5 w2:=hG;have q30:=tellV hp 0 10 rfl rfl (fun _=>hE);have q31:=tE hp 1 11 rfl rfl rfl;have qg:=tE hp 2 7 rfl rfl rfl;change OpGoal _ _ _ f w2 Ext _;refine og_guard (j:=7) (want:=true) rfl qg ?_;obtain⟨g30,hg30⟩:=q30;exact og_appB _ _ rfl rfl g30 hg30 t bs q31 (HB.out.ext (E5.trans hE)) HL.out (fun v' w' h k=>k)
   ·intro f w2 hG hp hl;have hE:Ext w5 w2:=hG;have hS:=hE.size;have q28:=tE hp 0 8 rfl rfl rfl;have q29:=tE hp 1 9 rfl rfl rfl;have q32:=tellV hp 2 12 rfl rfl (fun _=>hE);have qg:=tE hp 4 7 rfl rfl rfl;change OpGoal _ _ _ f w2 Ext _;refine og_guard (j:=7) (want:=true) rfl qg ?_;change OpGoal _ _ _ f w2 Ext _;refine oC #[f 8,f 9,f 12] Tryz.func30 rfl rfl ?_;rw[q28,q29];refine(split_calls 6 30 _ _ _ A B bs _ (GA.out _ _ (CA.out.ext hE)) (GB.out _ _ (CB.out.ext hE)) (BO.bl q32) LA.out LB.out (by omega) (by omega)).mono ?_;rintro e w' ⟨rfl,h2⟩
    exact⟨_,rfl,h2,by rw[HSP.out]<;>rfl⟩
   ·intro f w2 hG hp hl;have hE:Ext w5 w2:=hG;have qg:=tE hp 0 7 rfl rfl rfl;change OpGoal _ _ _ f w2 Ext _;refine og_guard (j:=7) (want:=true) rfl qg ?_;change OpGoal _ _ _ f w2 Ext _;exact og_load (P:=Tryz.prog) _ _ w.heap.size _ _ _ rfl rfl rfl (P5.ext hE) Tryz.underlying36 rfl (by kernel_rfl) rfl
   ·intro f w2 hG hp hl;have hE:Ext w5 w2:=hG;have qg:=tE hp 0 7 rfl rfl rfl;change OpGoal _ _ _ f w2 Ext _;refine og_guard (j:=7) (want:=true) rfl qg ?_;change OpGoal _ _ _ f w2 Ext _;exact og_load (P:=Tryz.prog) _ _ (w.heap.size+1) _ _ _ rfl rfl rfl (Q5.ext hE) Tryz.underlying36 rfl (by kernel_rfl) rfl
   ·intro f w2 hG hp hl;have qg:=tE hp 0 7 rfl rfl rfl;change OpGoal _ _ _ f w2 Ext _;refine og_guard (j:=7) (want:=true) rfl qg ?_;simp only[OpGoal];go_simp;exact⟨_,rfl,Ext.refl _,rfl⟩
   ·intro f w2 hG hp hl;have hE:Ext w5 w2:=hG;have hS:=hE.size;have q34:=tE hp 0 14 rfl rfl rfl;have q35:=tE hp 1 15 rfl rfl rfl;have q36:=tE hp 2 16 rfl rfl rfl;have qg:=tE hp 4 7 rfl rfl rfl;change OpGoal _ _ _ f w2 Ext _;refine og_guard (j:=7) (want:=true) rfl qg ?_;change OpGoal _ _ _ f w2 Ext _;refine oC #[f 14,f 15,f 16] Tryz.func31 rfl rfl ?_;rw[q34,q35,q36];refine(split11_calls 6 _ _ _ A B bs _ (FA.out _ (E5.trans hE)) (FB.out _ (E5.trans hE)) (HB.out.ext (E5.trans hE)) (by omega) (by have:=LA.out;omega) (by have:=LB.out;omega) HR1.out).mono ?_;rintro e w' ⟨rfl,h2⟩
    exact⟨_,rfl,h2,by rw[HSP.out]<;>rfl⟩
   ·intro f w2 hG hp hl;have q33:=tE hp 0 13 rfl rfl rfl;have q37:=tE hp 1 17 rfl rfl rfl;have qg:=tE hp 2 7 rfl rfl rfl;change OpGoal _ _ _ f w2 Ext _;refine og_guard (j:=7) (want:=true) rfl qg ?_
    cases sp<;>(simp only[OpGoal];go_simp;exact⟨_,rfl,Ext.refl _,rfl⟩)
   ·intro f w2 hG hp hl;have q27:=tE hp 0 7 rfl rfl rfl;have q38:=tE hp 1 18 rfl rfl rfl;simp only[OpGoal];go_simp;exact⟨_,rfl,Ext.refl _,rfl⟩
   ·intro f w2 hG hp hl;have q39:=tE hp 0 19 rfl rfl rfl;simp only[OpGoal];go_simp;exact⟨_,rfl,Ext.refl _,rfl⟩
  ·intro f w6 hG hp;have hE:Ext w5 w6:=ChgS.nil hG
   have q9:f 20= .bool true:=endV hp 20 (by decide) rfl (fun h=>by cases h)
   try simp only[q9]
   clear hp;have h56:Ext w5 w6:=hG.nil;have E6:=E5.trans h56;have P6:=P5.ext h56;have Q6:=Q5.ext h56;have T76:=T7.ext h56;have T86:=T8.ext h56;have CA6:=Lib.hid (CA.out.ext h56);have CB6:=Lib.hid (CB.out.ext h56);clear hG h56 E5 P5 Q5 T7 T8 CA CB;have hp0:=P6.cell 0;have hp1:=P6.cell 1;have hp2:=P6.cell 2;have hp3:=P6.cell 3;have hp4:=P6.cell 4;have ht0:=T76.cell 0;have ht1:=T76.cell 1;have ht2:=T76.cell 2;have ht3:=T76.cell 3;have ht4:=T76.cell 4;go_wp2_with fail;refine(sameCons_true _ _ a w6 CA6.out (HV.out.ext E6)).mono ?_;rintro e w7 ⟨rfl,e7⟩;have hq:=Q6.ext e7;have hs:=T86.ext e7;clear hp0 hp1 hp2 hp3 hp4 ht0 ht1 ht2 ht3 ht4;have hq0:=hq.cell 0;have hq1:=hq.cell 1;have hq2:=hq.cell 2;have hq3:=hq.cell 3;have hq4:=hq.cell 4;have hs0:=hs.cell 0;have hs1:=hs.cell 1;have hs2:=hs.cell 2;have hs3:=hs.cell 3;have hs4:=hs.cell 4;go_wp2_with fail;refine(sameCons_true _ _ b w7 (CB6.out.ext e7) (HU.out.ext (E6.trans e7))).mono ?_;rintro e w8 ⟨rfl,e8⟩;go_wp2;go_ret;exact⟨rfl,(E6.trans e7).trans e8⟩
section
variable {H:Type} {enc:TypeId×Value→H} {w:World} {base:Nat} {spare:Nat→Bool} {held:Bool}
theorem bytesB:Tryz.prog.bytesOf 4=1:=by kernel_rfl
theorem open_boolsL{v:Value}{d:DataW H}{p:List MemPlace}{W0:World}{b0:Nat}(hv:Value.okWide Tryz.prog W0 .any b0 48 v)(h:DataW.Trod enc Tryz.prog w base spare held 48 v d p)(B:Nat)(hb:B≤4611686018427387903)(hB:∀n∈d.weights Tryz.prog 48,n≤B):
  ∃l,BL w v l∧l.length*Tryz.prog.bytesOf 4≤B:=by
 obtain⟨a,n,c,rfl⟩:=okWide_slice Tryz.underlying48 hv;obtain⟨fuel,hf⟩:=h
 obtain⟨v',ys,h1,h2,h3, -⟩:=open_ones (R:=fun _ v b=>v= .bool b) (F:=fun _ _=>True) B Tryz.underlying48 cellsB (fun fuel v x hw hx=>by
  obtain⟨b,hb⟩:=open_bool1 hx
  cases hb
  exact⟨b,rfl,trivial⟩) hB hf
 have hcs:(Value.slice a n c).cells.toList=[Value.slice a n c]:=rfl
 rw[hcs]at h1
 cases h1
 exact⟨ys,h2,h3⟩
end
end Go.Proofs.YtokfaggcojokgaaGreat
