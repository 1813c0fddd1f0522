/-
 The law ModelConstraints.
-/
import Derived.Test.YtbmnlaepfckmkaaGreatMdmZ
import Derived.Test.YtbmnlaepfckmkaaGreatCnhZ
namespace Go.Proofs.YtbmnlaepfckmkaaGreat
set_option maxRecDepth 100000
set_option maxHeartbeats 1000000
open Go.RowKit
set_option linter.unusedVariables false
set_option linter.unusedSimpArgs false
theorem ltV_lenR{p:PbE}(h:okPb p):∀r∈(ratPb p).1,r.2.length≤30:=by
 intro r hr;obtain⟨e,he,rfl⟩:=List.mem_map.1 hr
 show(ratT e.2.2.2).length≤30
 unfold ratT;rw[List.length_map];exact(h.2.2.1 e he).2.2.1
theorem ratPb_len{p:PbE}:(ratPb p).1.length=p.2.1.length∧(ratPb p).2.length=p.2.2.length:=⟨List.length_map ..,List.length_map ..⟩
theorem told_terms{s:SpR}{t:Bool}{l:List (Int×Rat)}:∀c∈toldS s t l,c.2.1.length≤l.length:=by
 have hm:=mkV_len l;intro c hc;unfold toldS at hc
 split at hc
 ·rw[List.mem_singleton]at hc;subst hc;exact hm
 ·rcases List.mem_append.1 hc with hc |hc<;>split at hc<;>simp at hc<;>subst hc<;>exact hm
theorem conP_terms{p:PbR}{n:Nat}(h:∀r∈p.1,r.2.length≤n)(hn:1≤n):∀c∈conP p,c.2.1.length≤n:=by
 intro c hc;unfold conP at hc
 rcases List.mem_append.1 hc with hc |hc
 ·unfold conR at hc;obtain⟨r,hr,hc⟩:=List.mem_flatMap.1 hc;exact Nat.le_trans (told_terms c hc) (Nat.le_trans (ltV_len _ _) (h r (List.mem_of_mem_take hr)))
 ·unfold conV at hc;obtain⟨j, -,hc⟩:=List.mem_flatMap.1 hc;exact Nat.le_trans (told_terms c hc) hn
theorem bl_own{B n:Nat}{w:World}{v:Value}{bs:List Bool}(h:w.ownsRow B 4 1 v n (bs.map Value.bool))(hn:n=bs.length):BL w v bs:=
 OV.sv (t:=4) (B:=B) ⟨bs.map Value.bool,by rw[List.length_map,←hn];exact h,by simp,fun i u y hu hy=>by
  rw[List.getElem?_map,hy]at hu
  cases hu
  rfl⟩
theorem QL.le{k k':Nat}{w:World}{v:Value}{l:List Rat}(h:QL k w v l)(hk:k≤k'):QL k' w v l:=SL.map h fun u y h=>h.mono hk
theorem all_take{α:Type}{l:List α}{i:Nat}{x:α}(f:α→Bool)(h:l[i]? =some x):(l.take (i+1)).all f=((l.take i).all f&&f x):=by
 rw[take_next h,List.all_append]
 simp
set_option maxHeartbeats 4000000 in
theorem modelConstraints_calls(v u:Value)(p:PbE)(xl:List RE)(w:World)(hv:PbH w v p)(hu:SLQ w u xl):
  Calls Tryz.prog 4 #[v,u] w fun e w'=>e= .returned (.bool true)∧Ext w w':=by
 have HV:=Lib.hid hv;have HU:=Lib.hid hu
 have lim:(100000:Nat)≤LIM:=by rw[LIM_eq];omega
 obtain⟨xa,xn,xc,hxn,rfl,hx1, -⟩:=hu.at;have HXN:=Lib.hid hxn;obtain⟨⟨n0,n1⟩,rows,vars⟩:=p;obtain⟨ra,rn,rc,va,vn,vc,rfl,hr,hvv⟩:=hv;obtain⟨_,_,_,hvn,hve, -, -⟩:=hvv.at;simp only[Value.slice.injEq]at hve;obtain⟨rfl,rfl,rfl⟩:=hve;have HVN:=Lib.hid hvn;clear hu hr hvv hxn hvn;obtain⟨w1,hw1,e1,bP,s1⟩:=alloc1 w #[.string n0,.string n1,.slice ra rn rc,.slice va vn vc] 25
 go_enter Tryz.func4,Tryz.ntmps4
 go_wp2_with fail;rw[←hw1];refine(speaksm_calls w1).mono ?_;rintro e w2 ⟨rfl,e2⟩;have hb:=bP.ext e2;have hp0:=hb.cell 0;have hp1:=hb.cell 1;have hp2:=hb.cell 2;have hp3:=hb.cell 3;clear hw1 hb;go_wp2_with fail;have E2:=e1.trans e2;refine(greatPb_calls _ ((n0,n1),rows,vars) w2 (HV.out.ext E2)).mono ?_;rintro e w3 ⟨g,rfl,hok,e3⟩;have E3:=E2.trans e3;clear hp0 hp1 hp2 hp3
 cases g with
 |true=>
  go_wp2;go_ret;exact⟨rfl,E3⟩
 |false=>
 have HOK:=Lib.hid (hok rfl);clear hok;go_wp2_with fail;refine(greatAll_calls _ xl w3 (HU.out.ext E3)).mono ?_;rintro e w4 ⟨rfl,e4⟩;obtain⟨r,hr⟩:∃r,r=greatE xl:=⟨_,rfl⟩;rw[←hr];have HR:=Lib.hid hr;clear hr;have E4:=E3.trans e4;have B4:=bP.ext (e2.trans (e3.trans e4));have hp0:=B4.cell 0;have hp1:=B4.cell 1;have hp2:=B4.cell 2;have hp3:=B4.cell 3
 cases r with
 |true=>
  go_wp2;go_ret;exact⟨rfl,E4⟩
 |false=>
 obtain⟨x1,x2⟩:=greatE_not HR.out.symm
 by_cases hne:xn=vn
 ·have hnes:=hne.symm;subst hnes;clear hne
  have hne2:((vn:Int) !=(vn:Int))=false:=by simp
  obtain⟨X,hX⟩:∃X,X=xl.map ratE:=⟨_,rfl⟩;obtain⟨P,hP⟩:∃P,P=ratPb ((n0,n1),rows,vars):=⟨_,rfl⟩;have HX:=Lib.hid (show∀(w':World),Ext w w'→QL 6 w' (.slice xa vn xc) X from fun w' h=>by rw[hX];exact(HU.out.ext h).ql 6 (by omega) (by omega) x2);have HPV:=Lib.hid (show∀(w':World),Ext w w'→PbV 6 w' (.agg #[.string n0,.string n1,.slice ra rn rc,.slice va vn vc]) P from fun w' h=>by rw[hP];exact(HV.out.ext h).pbv HOK.out);have HXL:=Lib.hid (show X.length≤30 by rw[hX,List.length_map];exact x1);have HXX:=Lib.hid (show vn=X.length by rw[hX,List.length_map];exact HXN.out);have HPL:=Lib.hid (show P.1.length≤70∧P.2.length≤50∧P.2.length=vn by rw[hP,ratPb_len.1,ratPb_len.2];exact⟨HOK.out.1,HOK.out.2.1,HVN.out.symm⟩);have HPT:=Lib.hid (show∀r∈P.1,r.2.length≤30 by rw[hP];exact ltV_lenR HOK.out);have HLAW:=Lib.hid (model_law P X (by rw[←HXX.out,HPL.out.2.2]));clear x1 x2 hX hP HR HOK HU HV e2 e3 e4 E2 E3;go_wp2_with fail;refine(mcons_calls 6 217 30 _ P w4 (HPV.out _ E4) HPT.out (by omega) (by omega) (by omega) (by omega) (by omega) (by have:=HPL.out.1;omega) (by have:=HPL.out.2.1;omega)).mono ?_;rintro e w7 ⟨v7,rfl,c7,e7⟩;obtain⟨ad,n,cap,hn,rfl,hn1,hat⟩:=(c7.cl (by omega)).at;have E7:=E4.trans e7;have B7:=B4.ext e7;have HN:=Lib.hid hn;have HAT:=Lib.hid hat;have HCT:=Lib.hid (conP_terms HPT.out (by omega));obtain⟨C,hC⟩:∃C,C=conP P:=⟨_,rfl⟩;rw[←hC]at HN HAT HCT HLAW
  clear c7 hat hn hC hp0 hp1 hp2 hp3 B4 hne2;go_wp2_with fail
  go_loopw [5,30] (fun s5 s30 wr=>∃(i:Nat) (d:Bool),i≤n∧s5= .bool d∧s30= .int .i64 (i:Int)∧Hid ((C.take i).all (holdsL X)=d)∧Ext w7 wr) (fun _ s30 _=>((n:Int) - intOf s30).toNat)
  case atStart=>exact ⟨0,true,Nat.zero_le _,rfl,rfl,Lib.hid rfl,Ext.refl _⟩
  case round=>
   obtain⟨i,d,hi,rfl,rfl,hS,hE0⟩:=hrel
   rcases Nat.eq_or_lt_of_le hi with hin |hin
   ·have hlt:¬((i:Int)<(n:Int)):=by omega
    have HALL:Hid (C.all (holdsL X)=d):=Lib.hid (by
     have h5:=hS.out;rw[List.take_of_length_le (by rw[←HN.out];omega)]at h5
     exact h5)
    have E0:=E7.trans hE0;have B0:=B7.ext hE0;have hp0:=B0.cell 0;have hp1:=B0.cell 1;have hp2:=B0.cell 2;have hp3:=B0.cell 3;clear hS HAT HN HCT hE0 B7 hin hi hn1;go_wp2_with fail;refine(mwhole_calls 6 _ P wr (HPV.out _ E0) (by have:=HPL.out.2.1;omega)).mono ?_;rintro e w8 ⟨v8,rfl,o8,e8⟩;obtain⟨wd,wc,rfl⟩:=ownsRow_lenP o8;have E8:=E0.trans e8;have B8:=B0.ext e8;have HBL:Hid (BL w8 (.slice wd P.2.length wc) (whlP P)):=Lib.hid (bl_own o8 (by unfold whlP;rw[List.length_map]));obtain⟨m,hm⟩:∃m,m=P.2.length:=⟨_,rfl⟩;rw[←hm]at HBL HPL ⊢
    have HWL:Hid (m=(whlP P).length):=Lib.hid (by unfold whlP;rw[List.length_map];exact hm)
    have hmv:m=vn:=HPL.out.2.2
    clear hm o8 hp0 hp1 hp2 hp3 B0;go_wp2_with fail
    go_loopw [5,67] (fun s5 s67 wr=>∃(i:Nat) (d2:Bool),i≤m∧s5= .bool d2∧s67= .int .i64 (i:Int)∧Hid ((d&&((whlP P).zip X |>.take i).all fun t=> !t.1 || isW t.2)=d2)∧Ext w8 wr) (fun _ s67 _=>((m:Int) - intOf s67).toNat)
    case atStart=>exact ⟨0,d,Nat.zero_le _,rfl,rfl,Lib.hid (by simp),Ext.refl _⟩
    case round=>
     obtain⟨i,d2,hi,rfl,rfl,hS,hE0⟩:=hrel
     rcases Nat.eq_or_lt_of_le hi with hin |hin
     ·have hlt:¬((i:Int)<(m:Int)):=by omega
      have HALL2:Hid (holdsP P X=d2):=Lib.hid (by
       have h5:=hS.out;rw[List.take_of_length_le (by rw[List.length_zip,←HWL.out];omega)]at h5;rw[HLAW.out,HALL.out]
       exact h5)
      have E9:=E8.trans hE0;have B9:=B8.ext hE0;have hp0:=B9.cell 0;have hp1:=B9.cell 1;have hp2:=B9.cell 2;have hp3:=B9.cell 3;clear hS HALL HLAW;go_wp2_with fail;refine(mholds_calls 6 6 1000 30 _ _ P X wr (HPV.out _ E9) (HX.out _ E9) HPT.out (by omega) (by omega) (by omega) (by omega) (by omega)).mono ?_;rw[HALL2.out];rintro e w9 ⟨rfl,e9⟩;go_wp2;go_ret
      exact⟨by cases d2<;>rfl,E9.trans e9⟩
     ·have hlt:(i:Int)<(m:Int):=by omega
      obtain⟨wa',m',wc',hm',hwe,hm1,hatw⟩:=HBL.out.at;simp only[Value.slice.injEq]at hwe;obtain⟨rfl,rfl,rfl⟩:=hwe;obtain⟨b,hb⟩:∃x,(whlP P)[i]? =some x:=⟨_,List.getElem?_eq_getElem (by rw[←HWL.out];exact hin)⟩;obtain⟨x,hx⟩:∃x,X[i]? =some x:=⟨_,List.getElem?_eq_getElem (by rw[←HXX.out];omega)⟩;obtain⟨gw,ow,rfl,hwc⟩:=hatw i b hb;have hwcell:=hwc wr hE0;have HNX:=Lib.hid (all_take (fun t=> !t.1 || isW t.2) (zip_at hb hx))
      have hltx:(i:Int)<(vn:Int):=by omega
      obtain⟨xa',xn',xc',hxn',hxe, -,hatx⟩:=(HX.out _ (E8.trans hE0)).at;simp only[Value.slice.injEq]at hxe;obtain⟨rfl,rfl,rfl⟩:=hxe;obtain⟨gx,ox,rfl,bx,a1,m1,c1,a2,m2,c2,hcx,hIR⟩:=hatx i x hx
      have hz0:wr.cell? ⟨gx,ox+i*3,none⟩=some (.bool bx):=hcx _ (Ext.refl _) 0 _ rfl
      have hz1:=hcx _ (Ext.refl _) 1 _ rfl;have hz2:=hcx _ (Ext.refl _) 2 _ rfl;have HIR:=Lib.hid hIR;obtain⟨iw,hiw⟩:∃y,y=isW x:=⟨_,rfl⟩;have HIW:=Lib.hid ((whole_den x).symm.trans hiw.symm);rw[←hiw]at HNX;clear hatw hwc hatx hcx hIR hb hx hiw hm' hxn'
      have step:∀d3,(d2&&(!b || iw))=d3→Hid ((d&&((whlP P).zip X |>.take (i+1)).all fun t=> !t.1 || isW t.2)=d3):=fun d3 h=>Lib.hid (by rw[HNX.out,←Bool.and_assoc,hS.out];exact h)
      have STEP:=Lib.hid step;clear step hS HNX
      cases d2 with
      |false=>
       go_wp2;go_roundw
       case rel=>exact ⟨i+1,_,by omega,rfl,congrArg (Value.int .i64) (by omega),STEP.out _ rfl,hE0⟩
       case measure=>simp [intOf];omega
      |true=>
       cases b with
       |false=>
        go_wp2;go_roundw
        case rel=>exact ⟨i+1,_,by omega,rfl,congrArg (Value.int .i64) (by omega),STEP.out _ rfl,hE0⟩
        case measure=>simp [intOf];omega
       |true=>
        go_wp2_with fail;refine(rqofR_calls _ x 6 wr HIR.out (by omega)).mono ?_;rintro e wa ⟨v1,rfl,qa,ea⟩;have hzD:=szD_of HIR.out.sz;have HQ:=Lib.hid qa.cq;clear qa hz0 hz1 hz2;go_wp2_with fail;refine(rqiswhole3_calls _ x wa HQ.out (by omega)).mono ?_;rw[HIW.out];rintro e wb ⟨rfl,eb⟩;clear hwcell hzD;go_wp2;go_roundw
        case rel=>exact ⟨i+1,iw,by omega,(by cases iw<;>rfl),congrArg (Value.int .i64) (by omega),STEP.out _ (by cases iw<;>rfl),hE0.trans (ea.trans eb)⟩
        case measure=>simp [intOf];omega
   ·have hlt:(i:Int)<(n:Int):=by omega
    obtain⟨c,hc⟩:∃x,C[i]? =some x:=⟨_,List.getElem?_eq_getElem (by rw[←HN.out];exact hin)⟩;obtain⟨g,off,rfl,ay,ny,py,bby,a1y,n1y,c1y,a2y,n2y,c2y,hcell,hTL,hIR⟩:=HAT.out i c hc;obtain⟨hc0,hc1,hc2,hc3,hc4⟩:=hcell wr hE0;obtain⟨w5,hw5,e5,BC,s5⟩:=alloc1 wr #[.int .i64 c.1,.slice ay ny py,.bool bby,.slice a1y n1y c1y,.slice a2y n2y c2y] 46;have h05:=hE0.trans e5;have hE5:=E7.trans h05;have HTL:=Lib.hid (hTL.ext h05);have HCR:=Lib.hid (hIR.ext h05);have HCN:=Lib.hid (HCT.out c (List.mem_of_getElem? hc));have hzd:=szD_of (sz_dot HTL.out.szs (HX.out _ hE5).szs);have hmm:c.2.1.length*(217+6+1)≤30*224:=Nat.mul_le_mul HCN.out (by omega);have HZ1:=Lib.hid (show szD (dotV c.2.1 X)≤1000000 by omega);have HZ2:=Lib.hid (szD_of HCR.out.sz);have HNX:=Lib.hid (all_take (holdsL X) hc);obtain⟨z,hz⟩:∃z,z=cmpR (dotV c.2.1 X) c.2.2:=⟨_,rfl⟩;have HZ:=Lib.hid hz
    have HK:Hid (holdsL X c=(!(decide (c.1≠2)&&decide (0<z))&& !(decide (c.1≠1)&&decide (z<0)))):=Lib.hid (by
     unfold holdsL keptL
     rw[hz,cmp_gt,cmp_lt])
    have STEP:Hid (∀d3,(d&&holdsL X c)=d3→(C.take (i+1)).all (holdsL X)=d3):=Lib.hid fun d3 h=>by rw[HNX.out,hS.out];exact h
    obtain⟨gc,hgc⟩:∃g,g=wr.heap.size:=⟨_,rfl⟩;clear hcell hTL hIR hc hzd hmm hz hS HNX;go_wp2_with fail;rw[←hw5,←hgc];rw[←hgc]at BC;clear hc0 hc1 hc2 hc3 hc4 hw5 hgc;refine wpQ [PP.val (.pointer (some ⟨gc,1,none⟩)),PP.val (.slice ay ny py),PP.val (.slice xa vn xc),PP.frQd (dotV c.2.1 X),PP.val (.pointer (some ⟨gc,2,none⟩)),PP.val (.agg #[.bool bby,.slice a1y n1y c1y,.slice a2y n2y c2y]),PP.frQd c.2.2,PP.val (.int .i64 z),PP.val (.int .i64 z)] [] [0,1,2,3,4,5,6,7,8] ?_ ?_
    ·refine⟨?_,?_,?_,?_,?_,?_,?_,?_,?_,trivial⟩
     ·intro f w6 hG hp hl;simp only[OpGoal];go_simp;exact⟨_,rfl,Ext.refl _,rfl⟩
     ·intro f w6 hG hp hl;have hE:Ext w5 w6:=hG;have q34:=tE hp 0 0 rfl rfl rfl;have hcell:=(BC.ext hE).cell 1;simp only[OpGoal];go_simp;exact⟨_,rfl,Ext.refl _,rfl⟩
     ·intro f w6 hG hp hl;simp only[OpGoal];go_simp;exact⟨_,rfl,Ext.refl _,rfl⟩
     ·intro f w6 hG hp hl;have hE:Ext w5 w6:=hG;have hS:=hE.size;have q35:=tE hp 0 1 rfl rfl rfl;have q36:=tE hp 1 2 rfl rfl rfl;change OpGoal _ _ _ f w6 Ext _;refine oC #[f 1,f 2] Tryz.func30 rfl rfl ?_;rw[q35,q36];refine(dot5_calls 217 _ _ c.2.1 X _ (HTL.out.ext hE) ((HX.out _ (hE5.trans hE)).le (by omega)) (by omega) (by have:=HCN.out;omega) (by have:=HXL.out;omega)).mono ?_;rintro e w' ⟨v',rfl,h1,h1b,h2⟩;exact⟨v',rfl,h2,h1.mono hS⟩
     ·intro f w6 hG hp hl;simp only[OpGoal];go_simp;exact⟨_,rfl,Ext.refl _,rfl⟩
     ·intro f w6 hG hp hl;have hE:Ext w5 w6:=hG;have q38:=tE hp 0 4 rfl rfl rfl;have hbx:=BC.ext hE;have hcell0:=hbx.cell 0;have hcell1:=hbx.cell 1;have hcell2:=hbx.cell 2;have hcell3:=hbx.cell 3;have hcell4:=hbx.cell 4;simp only[OpGoal];go_simp;exact⟨_,rfl,Ext.refl _,rfl⟩
     ·intro f w6 hG hp hl;have hE:Ext w5 w6:=hG;have hS:=hE.size;have q39:=tE hp 0 5 rfl rfl rfl;change OpGoal _ _ _ f w6 Ext _;refine oC #[f 5] Tryz.func31 rfl rfl ?_;rw[q39];refine(rqofR_calls _ c.2.2 217 _ (HCR.out.ext hE) (by omega)).mono ?_;rintro e w' ⟨v',rfl,h1,h2⟩;exact⟨v',rfl,h2,h1.mono hS⟩
     ·intro f w6 hG hp hl;have hE:Ext w5 w6:=hG;have hS:=hE.size;have q37:=tellV hp 0 3 rfl rfl (fun _=>hE);have q40:=tellV hp 1 6 rfl rfl (fun _=>hE);change OpGoal _ _ _ f w6 Ext _;refine oC #[f 3,f 6] Tryz.func29 rfl rfl ?_;refine(rqcmp3_calls _ _ (dotV c.2.1 X) c.2.2 1000000 1085 _ q37.cq q40.cq HZ1.out HZ2.out (by omega)).mono ?_;rintro e w' ⟨rfl,h2⟩
      exact⟨_,rfl,h2,by rw[HZ.out]<;>rfl⟩
     ·intro f w6 hG hp hl;have q41:=tE hp 0 7 rfl rfl rfl;exact⟨_,rfl,Ext.refl _,q41⟩
    ·intro f w6 hG hp;have hE:Ext w5 w6:=ChgS.nil hG
     have q8:f 8= .int .i64 z:=endV hp 8 (by decide) rfl (fun h=>by cases h)
     try simp only[q8]
     clear hp;have E6:=h05.trans hE;have B6:=BC.ext hE;have hq0:=B6.cell 0;clear hE B6;obtain⟨s,hs⟩:∃s,s=c.1:=⟨_,rfl⟩;rw[←hs]at hq0 HK;clear hs
     cases d with
     |false=>
      go_wp2;go_roundw
      case rel=>exact ⟨i+1,_,by omega,rfl,congrArg (Value.int .i64) (by omega),Lib.hid (STEP.out _ rfl),E6⟩
      case measure=>simp [intOf];omega
     |true=>
      by_cases h2:s=2
      ·subst h2
       by_cases h3:z<0
       ·have HD:Hid (holdsL X c=false):=Lib.hid (by rw[HK.out];simp[h3])
        go_wp2;go_roundw
        case rel=>exact ⟨i+1,_,by omega,rfl,congrArg (Value.int .i64) (by omega),Lib.hid (STEP.out _ (by rw[HD.out];rfl)),E6⟩
        case measure=>simp [intOf];omega
       ·have HD:Hid (holdsL X c=true):=Lib.hid (by rw[HK.out];simp[h3])
        have h3d:decide (z<0)=false:=decide_eq_false h3
        go_wp2;go_roundw
        case rel=>exact ⟨i+1,true,by omega,(by simp[h3d]),congrArg (Value.int .i64) (by omega),Lib.hid (STEP.out _ (by rw[HD.out];rfl)),E6⟩
        case measure=>simp [intOf];omega
      ·have h2b:(s !=2)=true:=by rw[bne_iff_ne];exact h2
       by_cases h4:0<z
       ·have HD:Hid (holdsL X c=false):=Lib.hid (by rw[HK.out];simp[h2,h4])
        go_wp2;go_roundw
        case rel=>exact ⟨i+1,false,by omega,(by simp[h4]),congrArg (Value.int .i64) (by omega),Lib.hid (STEP.out _ (by rw[HD.out];rfl)),E6⟩
        case measure=>simp [intOf];omega
       ·have h4d:decide (0<z)=false:=decide_eq_false h4
        by_cases h1:s=1
        ·subst h1
         have HD:Hid (holdsL X c=true):=Lib.hid (by rw[HK.out];simp[h4])
         go_wp2;go_roundw
         case rel=>exact ⟨i+1,true,by omega,(by simp),congrArg (Value.int .i64) (by omega),Lib.hid (STEP.out _ (by rw[HD.out];rfl)),E6⟩
         case measure=>simp [intOf];omega
        ·have h1b:(s !=1)=true:=by rw[bne_iff_ne];exact h1
         by_cases h3:z<0
         ·have HD:Hid (holdsL X c=false):=Lib.hid (by rw[HK.out];simp[h1,h3])
          go_wp2;go_roundw
          case rel=>exact ⟨i+1,false,by omega,(by simp[h3]),congrArg (Value.int .i64) (by omega),Lib.hid (STEP.out _ (by rw[HD.out];rfl)),E6⟩
          case measure=>simp [intOf];omega
         ·have HD:Hid (holdsL X c=true):=Lib.hid (by rw[HK.out];simp[h3,h4])
          have h3d:decide (z<0)=false:=decide_eq_false h3
          go_wp2;go_roundw
          case rel=>exact ⟨i+1,true,by omega,(by simp[h3d]),congrArg (Value.int .i64) (by omega),Lib.hid (STEP.out _ (by rw[HD.out];rfl)),E6⟩
          case measure=>simp [intOf];omega
 ·have hne2:((xn:Int) !=(vn:Int))=true:=by rw[bne_iff_ne];omega
  go_wp2;go_ret;exact⟨rfl,E4⟩
end Go.Proofs.YtbmnlaepfckmkaaGreat
