/-
 The law ModelMean.
-/
import Derived.Test.YtbmnlaepfckmkaaGreatMdmZ
import Derived.Test.YtbmnlaepfckmkaaGreatMdqZ
import Derived.Test.YtbmnlaepfckmkaaGreatPlaZ
namespace Go.Proofs.YtbmnlaepfckmkaaGreat
set_option maxRecDepth 100000
set_option maxHeartbeats 1000000
open Go.RowKit
set_option linter.unusedVariables false
set_option linter.unusedSimpArgs false
def PP.oneF{S:Nat}(q:Rat):PP S:=⟨false,fun u w=>∃g b a1 n1 c1 a2 n2 c2,S≤g∧u= .slice (some ⟨g,0,none⟩) 1 1∧Bx 41 w g #[.bool b,.slice a1 n1 c1,.slice a2 n2 c2]∧FrQ S w (.agg #[.bool b,.slice a1 n1 c1,.slice a2 n2 c2]) q,fun _ _ _ h hp=>(let ⟨g,b,a1,n1,c1,a2,n2,c2,h1,h2,h3,h4⟩:=hp;⟨g,b,a1,n1,c1,a2,n2,c2,h1,h2,h3.ext h,h4.ext h⟩),fun _ _ hg _ _ _ h hp=>(let ⟨g,b,a1,n1,c1,a2,n2,c2,h1,h2,h3,h4⟩:=hp;⟨g,b,a1,n1,c1,a2,n2,c2,h1,h2,h3.chg h (by omega),h4.chg h hg⟩)⟩
def PA.frQS{S:Nat}(q:Rat)(k:Nat):PA S:=⟨fun u w=>FrQ S w u q∧szQ q≤k,fun _ _ _ h hp=>⟨hp.1.ext h,hp.2⟩,fun _ _ _ h hp=>⟨hp.1.schg h,hp.2⟩⟩
theorem szQ_mean{x y:Rat}(hx:szQ x≤6)(hy:szQ y≤6):szQ (meanQ x y)≤14:=by
 unfold meanQ;rw[show (x+y) / ((2:Int):Rat)=(x+y)*(1 / ((2:Int):Rat))by rw[Rat.div_def,Rat.div_def,Rat.one_mul]];have h1:=szQ_add hx hy
 have h2:szQ (1 / ((2:Int):Rat))≤1:=by decide+kernel
 have:=szQ_mul h1 h2
 omega
theorem meanL_take{xs ys:List Rat}{i:Nat}{x y:Rat}(h:xs[i]? =some x)(k:ys[i]? =some y):(meanL xs ys).take (i+1)=(meanL xs ys).take i++ [meanQ x y]:=take_next (meanL_at h k)
def MeJ(S:Nat)(w:World)(u:Value)(n:Nat)(qs:List Rat):Prop:=n=qs.length∧OL 41 3 S (FrK S 14) w u qs
def PA.frQdS{S:Nat}(q:Rat)(k:Nat):PA S:=⟨fun u w=>FrQd S w u q∧szD q≤k,fun _ _ _ h hp=>⟨hp.1.ext h,hp.2⟩,fun _ _ _ h hp=>⟨hp.1.schg h,hp.2⟩⟩
theorem FrQdS.parts{B k:Nat}{w:World}{v:Value}{q:Rat}(h:FrQd B w v q∧szD q≤k):∃cells,v= .agg cells∧cells.size=3∧cells.all (·.oneCell')=true∧NoInt cells:=h.1.parts
theorem cmpR_selfM(x:Rat):cmpR x x=0:=by
 unfold cmpR;rw[if_neg (by grind),if_pos rfl]
theorem Bx.ne{t t':TypeId}{w:World}{g g':Nat}{cs cs':Array Value}(h:Bx t w g cs)(k:Bx t' w g' cs')(ht:t≠t'):g≠g':=fun e=>by
 subst e;unfold Bx at h k;rw[h]at k;simp only[Option.some.injEq,Obj.cells.injEq]at k;exact ht k.2.1
set_option maxHeartbeats 4000000 in
theorem modelMean_calls(v u t:Value)(p:PbE)(xl yl:List RE)(w:World)(hv:PbH w v p)(hu:SLQ w u xl)(ht:SLQ w t yl):
  Calls Tryz.prog 5 #[v,u,t] w fun e w'=>e= .returned (.bool true)∧Ext w w':=by
 have HV:=Lib.hid hv;have HU:=Lib.hid hu;have HT:=Lib.hid ht;have eq:=emptyQ
 have lim:(100000:Nat)≤LIM:=by rw[LIM_eq];omega
 obtain⟨xa,xn,xc,hxn,rfl,hx1, -⟩:=hu.at;obtain⟨ya,yn,yc,hyn,rfl,hy1, -⟩:=ht.at;have HXN:=Lib.hid hxn;have HYN:=Lib.hid hyn;obtain⟨⟨n0,n1⟩,rows,vars⟩:=p;obtain⟨ra,rn,rc,va,vn,vc,rfl,hr,hvv⟩:=hv;obtain⟨_,_,_,hvn,hve, -, -⟩:=hvv.at;simp only[Value.slice.injEq]at hve;obtain⟨rfl,rfl,rfl⟩:=hve;have HVN:=Lib.hid hvn;clear hu ht hr hvv hxn hyn hvn;obtain⟨w1,hw1,e1,bP,s1⟩:=alloc1 w #[.string n0,.string n1,.slice ra rn rc,.slice va vn vc] 25
 go_enter Tryz.func5,Tryz.ntmps5
 go_wp2_with fail;rw[←hw1];refine(speaksm_calls w1).mono ?_;rintro e w2 ⟨rfl,e2⟩;have hb:=bP.ext e2;have hp0:=hb.cell 0;have hp1:=hb.cell 1;have hp2:=hb.cell 2;have hp3:=hb.cell 3;clear hw1 hb;go_wp2_with fail;have E2:=e1.trans e2;refine(greatPb_calls _ ((n0,n1),rows,vars) w2 (HV.out.ext E2)).mono ?_;rintro e w3 ⟨g,rfl,hok,e3⟩;have E3:=E2.trans e3;clear hp0 hp1 hp2 hp3
 cases g with
 |true=>
  go_wp2;go_ret;exact⟨rfl,E3⟩
 |false=>
 have HOK:=Lib.hid (hok rfl);clear hok;go_wp2_with fail;refine(greatAll_calls _ xl w3 (HU.out.ext E3)).mono ?_;rintro e w4 ⟨rfl,e4⟩;obtain⟨r,hr⟩:∃r,r=greatE xl:=⟨_,rfl⟩;rw[←hr];have HR:=Lib.hid hr;clear hr;have E4:=E3.trans e4
 cases r with
 |true=>
  go_wp2;go_ret;exact⟨rfl,E4⟩
 |false=>
 go_wp2_with fail;refine(greatAll_calls _ yl w4 (HT.out.ext E4)).mono ?_;rintro e w5 ⟨rfl,e5⟩;obtain⟨r,hr⟩:∃r,r=greatE yl:=⟨_,rfl⟩;rw[←hr];have HR2:=Lib.hid hr;clear hr;have E5:=E4.trans e5
 cases r with
 |true=>
  go_wp2;go_ret;exact⟨rfl,E5⟩
 |false=>
 obtain⟨x1,x2⟩:=greatE_not HR.out.symm;obtain⟨y1,y2⟩:=greatE_not HR2.out.symm
 by_cases hne:xn=yn
 ·subst hne
  have hne2:((xn:Int) !=(xn:Int))=false:=by simp
  obtain⟨X,hX⟩:∃X,X=xl.map ratE:=⟨_,rfl⟩;obtain⟨Y,hY⟩:∃Y,Y=yl.map ratE:=⟨_,rfl⟩;obtain⟨P,hP⟩:∃P,P=ratPb ((n0,n1),rows,vars.map unw):=⟨_,rfl⟩;have HX:=Lib.hid (show∀(w':World),Ext w w'→QL 6 w' (.slice xa xn xc) X from fun w' h=>by rw[hX];exact(HU.out.ext h).ql 6 (by omega) (by omega) x2);have HY:=Lib.hid (show∀(w':World),Ext w w'→QL 6 w' (.slice ya xn yc) Y from fun w' h=>by rw[hY];exact(HT.out.ext h).ql 6 (by omega) (by omega) y2);have HXX:=Lib.hid (show xn=X.length by rw[hX,List.length_map];exact HXN.out);have HYY:=Lib.hid (show xn=Y.length by rw[hY,List.length_map];exact HYN.out)
  have hx30:xn≤30:=by rw[HXN.out];exact x1
  have HXY:=Lib.hid (show X.length=Y.length by rw[←HXX.out,←HYY.out]);have HPL:=Lib.hid (show P.2.length≤50 by rw[hP,ratPb_len.2];show(vars.map unw).length≤50;rw[List.length_map];exact HOK.out.2.1);have HPT:=Lib.hid (show∀r∈P.1,r.2.length≤30 by rw[hP];exact ltV_lenR (okPb_unw HOK.out));have HPW:=Lib.hid (show∀v∈P.2,v.1=false by rw[hP];exact ratPb_unw);have HPE:=Lib.hid (show∀(w':World) (v':Value),PbH w' v' ((n0,n1),rows,vars.map unw)→PbV 6 w' v' P from fun w' v' h=>by rw[hP];exact h.pbv (okPb_unw HOK.out));have B5:=bP.ext (e2.trans (e3.trans (e4.trans e5)))
  have hv50:vn≤50:=by rw[HVN.out];exact HOK.out.2.1
  have hp0:=B5.cell 0;have hp1:=B5.cell 1;have hp2:=B5.cell 2;have hp3:=B5.cell 3;clear x1 x2 y1 y2 hX hY hP HR HR2 e2 e3 e4 e5 E2 E3 E4 bP;go_wp2_with fail;refine(copyPb_calls _ ((n0,n1),rows,vars) w5 (HV.out.ext E5) HOK.out).mono ?_;rintro e w6 ⟨v6,rfl,hY6,e6⟩;obtain⟨rb,rm,rd,vb,vm,vd,rfl,hRO,hVO⟩:=hY6;obtain⟨_,_,_,hvm,hve, -, -⟩:=(VrO.hl hVO).at;simp only[Value.slice.injEq]at hve;obtain⟨rfl,rfl,rfl⟩:=hve;obtain rfl:vn=vm:=HVN.out.trans hvm.symm;obtain⟨wq,hwq,eq6,BQ,sq6⟩:=alloc1 w6 #[.string n0,.string n1,.slice rb rm rd,.slice vb vn vd] 25;obtain⟨gq,hgq⟩:∃g,g=w6.heap.size:=⟨_,rfl⟩;rw[←hgq]at BQ;have E6:=Lib.hid (e6.trans eq6);have HRO:=Lib.hid (hRO.ext eq6);have HVO:=Lib.hid (hVO.ext eq6);have hs5q:=e6.size;have hq0:=BQ.cell 0;have hq1:=BQ.cell 1;have hq2:=BQ.cell 2;have hq3:=BQ.cell 3;rw[hwq,hgq]at hq0 hq1 hq2 hq3;clear hp0 hp1 hp2 hp3 hRO hVO hvm hne2 B5;go_wp2_with fail;rw[←hwq,←hgq];clear hwq hgq hq0 hq1 hq2 hq3 sq6;have hS5:=E5.size
  go_loopw [37] (fun s37 wr=>∃(i:Nat),i≤vn∧s37= .int .i64 (i:Int)∧Hid (Bx 25 wr gq #[.string n0,.string n1,.slice rb rm rd,.slice vb vn vd]∧RwO w5.heap.size wr (.slice rb rm rd) rows∧VrO w5.heap.size wr (.slice vb vn vd) (unV vars i))∧Ext w5 wr) (fun s37 _=>((vn:Int) - intOf s37).toNat)
  case atStart=>exact ⟨0,Nat.zero_le _,rfl,Lib.hid ⟨BQ,HRO.out,by rw[unV_zero];exact HVO.out⟩,E6.out⟩
  clear HRO HVO E6 BQ
  case round=>
   obtain⟨i,hi,rfl,hS,hE0⟩:=hrel
   rcases Nat.eq_or_lt_of_le hi with hin |hin
   ·have hlt:¬((i:Int)<(vn:Int)):=by omega
    have HST:=Lib.hid (show Bx 25 wr gq #[.string n0,.string n1,.slice rb rm rd,.slice vb vn vd]∧RwO w5.heap.size wr (.slice rb rm rd) rows∧VrO w5.heap.size wr (.slice vb vn vd) (vars.map unw)from by
     have h:=hS.out;rw[hin,HVN.out,unV_all]at h;rw[HVN.out]
     exact h)
    have HPV:=Lib.hid (show∀w',Ext wr w'→PbV 6 w' (.agg #[.string n0,.string n1,.slice rb rm rd,.slice vb vn vd]) P from fun w' h=>HPE.out w' _ ((PbY.pbh (p:=((n0,n1),rows,vars.map unw)) ⟨_,_,_,_,_,_,rfl,HST.out.2.1,HST.out.2.2⟩).ext h));have EM:=Lib.hid (E5.trans hE0);have BM:=HST.out.1;clear hS HST hE0 hi hin;go_wp2_with fail;refine(rqsmall3_calls 2 wr (by omega) (by omega)).mono ?_;rintro e wa ⟨va',rfl,q2,ea⟩;obtain⟨tb,t1,u1,v1,t2,u2,v2,rfl,q2⟩:=q2.opn;obtain⟨wb,hwb,eb,B2,sb⟩:=alloc1 wa #[.bool tb,.slice t1 u1 v1,.slice t2 u2 v2] 56;have HQ2:=Lib.hid (q2.ext eb);obtain⟨g2,hg2⟩:∃g,g=wa.heap.size:=⟨_,rfl⟩;rw[←hg2]at B2;obtain⟨S0,hS0⟩:∃S,S=wb.heap.size:=⟨_,rfl⟩;have HS0:=Lib.hid hS0
    have HSB:Hid (S0=g2+1):=Lib.hid (by have h:wb.heap.size=wa.heap.size+1:=sb;omega)
    have EMb:=Lib.hid (ea.trans eb)
    have hOL:OL 41 3 S0 (FrK S0 14) (wb.alloc (.cells #[] 41)) (.slice (some ⟨S0,0,none⟩) 0 0) []:=by
     rw[hS0];exact⟨[],LS.empty _ _ _ _ (Nat.le_refl _),rfl,fun i u y h=>by simp at h⟩
    have HOL:=Lib.hid hOL;clear q2 ea eb hOL sb;go_wp2_with fail;rw[←hwb,←hg2];clear hwb hg2
    go_loopw [10,50] (fun s10 s50 wr2=>∃(i gz capo n:Nat),i≤xn∧s50= .int .i64 (i:Int)∧s10= .slice (some ⟨gz,0,none⟩) n capo∧Hid (MeJ S0 wr2 (.slice (some ⟨gz,0,none⟩) n capo) n ((meanL X Y).take i))∧Ext wb wr2) (fun _ s50 _=>((xn:Int) - intOf s50).toNat)
    case atStart=>exact ⟨0,S0,0,0,Nat.zero_le _,rfl,by rw[HSB.out],Lib.hid ⟨rfl,by simpa using HOL.out⟩,(Ext.refl _).alloc _⟩
    clear HOL hS0
    case round=>
     obtain⟨i,gz,capo,n,hi,rfl,rfl,hS,hE0⟩:=hrel
     rcases Nat.eq_or_lt_of_le hi with hin |hin
     ·have hlt:¬((i:Int)<(xn:Int)):=by omega
      obtain⟨Z,hZ⟩:∃Z,Z=meanL X Y:=⟨_,rfl⟩
      have hZn:Z.length=xn:=by rw[hZ,meanL_len HXY.out,←HXX.out]
      have hnx:=hS.out.1;have hQL:=hS.out.2;rw[←hZ,List.take_of_length_le (by omega)]at hnx hQL;rw[hZn]at hnx;subst hnx;have HZL:=Lib.hid (show∀w',Ext wr w'→QL 14 w' (.slice (some ⟨gz,0,none⟩) n capo) Z from fun w' h=>QL.ext (hQL.ql (by omega)) h);have EW:=Lib.hid (EM.out.trans (EMb.out.trans hE0));have HPV8:=Lib.hid (show∀w',Ext wr w'→PbV 6 w' (.agg #[.string n0,.string n1,.slice rb rm rd,.slice vb vn vd]) P from fun w' h=>HPV.out w' ((EMb.out.trans hE0).trans h));have BQ8:=BM.ext (EMb.out.trans hE0);have B28:=B2.ext hE0;have HT28:=Lib.hid (HQ2.out.ext hE0);have hpl:=HPL.out;have HC1:=Lib.hid (show(P.2.length+1)*(6+1)≤400 by omega);have HC2:=Lib.hid (show(P.2.length+1)*(400+6+1)≤34359738000 by omega);have HC2b:=Lib.hid (show(P.2.length+1)*(400+14+1)≤34359738000 by omega);have HC3:=Lib.hid (show P.2.length*(400+6+1)+1≤25000 by omega);have HC3b:=Lib.hid (show P.2.length*(400+14+1)+1≤25000 by omega);have HCM:=Lib.hid (show((2:Int):Rat)*costP P Z=costP P X+costP P Y by rw[hZ];exact cost_mean P HXY.out);have HHM:=Lib.hid (show holdsP P X=true→holdsP P Y=true→holdsP P Z=true by rw[hZ];exact holds_mean HPW.out HXY.out);obtain⟨zc,hzc⟩:∃z,z=capo:=⟨_,rfl⟩;rw[←hzc]at HZL ⊢;clear hS hE0 hZ hZn hQL hpl hzc BM B2 HQ2 EMb HPV HPE HXX HYY HS0;go_wp2_with fail;refine wp_region_als [⟨9,56,3,#[.bool false,.slice none 0 0,.slice none 0 0]⟩] [⟨10,⟨9,56,3,#[.bool false,.slice none 0 0,.slice none 0 0]⟩,PA.frQdS (costP P X+costP P Y) 250001⟩] [PA.val (.agg #[.string n0,.string n1,.slice rb rm rd,.slice vb vn vd]),PA.val (.slice xa n xc),PA.frQS (costP P X) 25000,PA.frQdS (costP P X) (5*25000),PA.val (.agg #[.string n0,.string n1,.slice rb rm rd,.slice vb vn vd]),PA.val (.slice ya n yc),PA.frQS (costP P Y) 25000,PA.frQdS (costP P Y) (5*25000),PA.frQdS (costP P X+costP P Y) 250001,PA.any,PA.any]
       (by kernel_rfl) (by kernel_rfl) (fun f=>(by simp only[fillR,fillL,List.setIfInBounds_toArray,List.set_cons_succ,List.set_cons_zero,Nat.reduceAdd];rfl)) ?_ ?_ ?_ ?_ ?_
      ·intro x hx;simp only[List.mem_cons,List.not_mem_nil,or_false]at hx;rcases hx with rfl
       ·exact⟨rfl,rfl,by decide,by decide,rfl,noInt3 _ _ _ _ _ _ _⟩
      ·intro x hx;simp only[List.mem_cons,List.not_mem_nil,or_false]at hx;rcases hx with rfl<;>exact ⟨rfl,rfl,by simp⟩
      ·intro x hx y hy h;simp only[List.mem_cons,List.not_mem_nil,or_false]at hx hy;rcases hx with rfl<;>rcases hy with rfl
       ·exact absurd rfl h
      ·refine⟨?_,?_,?_,?_,?_,?_,?_,?_,?_,?_,?_,trivial⟩
       ·intro f wz hE hp;have hS:=hE.size;change OpGoal _ _ _ f wz Ext _;exact og_load (P:=Tryz.prog) _ _ gq _ _ _ rfl rfl rfl (BQ8.ext hE) Tryz.underlying25 rfl (by kernel_rfl) rfl
       ·intro f wz hE hp;have hS:=hE.size;change OpGoal _ _ _ f wz Ext _;simp only[OpGoal];go_simp;exact⟨_,rfl,Ext.refl _,rfl⟩
       ·intro f wz hE hp;have hS:=hE.size
        have q71:f 0= .agg #[.string n0,.string n1,.slice rb rm rd,.slice vb vn vd]:=tellA hp 0 0 rfl rfl rfl
        have q72:f 1= .slice xa n xc:=tellA hp 1 1 rfl rfl rfl
        change OpGoal _ _ _ f wz Ext _;refine oC #[f 0,f 1] Tryz.func38 rfl rfl ?_;rw[q71,q72];refine(mcost_calls 6 6 400 _ _ P X _ (HPV8.out _ hE) (HX.out _ (EW.out.trans hE)) (by have:=HPL.out;omega) HC1.out HC2.out).mono ?_;rintro e w' ⟨v',rfl,h1,hz,h2⟩;exact⟨v',rfl,h2,h1.mono hS,by have:=HC3.out;omega⟩
       ·intro f wz hE hp;have hS:=hE.size;have q73:=tellA hp 0 2 rfl rfl rfl;change OpGoal _ _ _ f wz Ext _;refine oC #[f 2] Tryz.func31 rfl rfl ?_;refine(rqofR_calls _ (costP P X) 25000 _ (q73.1.isR q73.2 (by omega)) (by omega)).mono ?_;rintro e w' ⟨v',rfl,h1,h2⟩;exact⟨v',rfl,h2,h1.mono hS,szD_of q73.2⟩
       ·intro f wz hE hp;have hS:=hE.size;change OpGoal _ _ _ f wz Ext _;exact og_load (P:=Tryz.prog) _ _ gq _ _ _ rfl rfl rfl (BQ8.ext hE) Tryz.underlying25 rfl (by kernel_rfl) rfl
       ·intro f wz hE hp;have hS:=hE.size;change OpGoal _ _ _ f wz Ext _;simp only[OpGoal];go_simp;exact⟨_,rfl,Ext.refl _,rfl⟩
       ·intro f wz hE hp;have hS:=hE.size
        have q75:f 4= .agg #[.string n0,.string n1,.slice rb rm rd,.slice vb vn vd]:=tellA hp 0 4 rfl rfl rfl
        have q76:f 5= .slice ya n yc:=tellA hp 1 5 rfl rfl rfl
        change OpGoal _ _ _ f wz Ext _;refine oC #[f 4,f 5] Tryz.func38 rfl rfl ?_;rw[q75,q76];refine(mcost_calls 6 6 400 _ _ P Y _ (HPV8.out _ hE) (HY.out _ (EW.out.trans hE)) (by have:=HPL.out;omega) HC1.out HC2.out).mono ?_;rintro e w' ⟨v',rfl,h1,hz,h2⟩;exact⟨v',rfl,h2,h1.mono hS,by have:=HC3.out;omega⟩
       ·intro f wz hE hp;have hS:=hE.size;have q77:=tellA hp 0 6 rfl rfl rfl;change OpGoal _ _ _ f wz Ext _;refine oC #[f 6] Tryz.func31 rfl rfl ?_;refine(rqofR_calls _ (costP P Y) 25000 _ (q77.1.isR q77.2 (by omega)) (by omega)).mono ?_;rintro e w' ⟨v',rfl,h1,h2⟩;exact⟨v',rfl,h2,h1.mono hS,szD_of q77.2⟩
       ·intro f wz hE hp;have hS:=hE.size;have q74:=tellA hp 0 3 rfl rfl rfl;have q78:=tellA hp 1 7 rfl rfl rfl;change OpGoal _ _ _ f wz Ext _;refine oC #[f 3,f 7] Tryz.func37 rfl rfl ?_;refine(rqadd3_calls _ _ (costP P X) (costP P Y) (5*25000) (5*25000) _ q74.1.cq q78.1.cq q74.2 q78.2 (by omega)).mono ?_;rintro e w' ⟨v',rfl,h1,hz,h2⟩;exact⟨v',rfl,h2,h1.mono hS,by omega⟩
       ·intro f wz hE hp;have hS:=hE.size;change OpGoal _ _ _ f wz (fun a b=>b=a.alloc _) _;exact og_alloc (P:=Tryz.prog) _ _ (.agg #[.bool false,.slice none 0 0,.slice none 0 0]) rfl rfl (by kernel_rfl) rfl
       ·intro f wz hE hp;have hS:=hE.size;have q79:=tellA hp 1 8 rfl rfl rfl;intro g old hfa hSg hbx hsz hno;change OpGoal _ _ _ f wz (Chg g) _;obtain⟨cells,hv,hcs,hc1,hcn⟩:=FrQdS.parts q79;exact og_storeA (P:=Tryz.prog) (PA.frQdS (costP P X+costP P Y) 250001) 3 _ _ _ g _ old cells rfl rfl hfa hv hbx (by rw[hcs];kernel_rfl) hsz hcs hc1 hSg (show 56≠173 by decide) (show 56≠3 by decide) hno hcn (hv▸q79)
      ·intro f w9 hE hp hal;obtain⟨ga12,ca12,fa12,la12,ba12,na12,pa12⟩:=hal ⟨9,56,3,#[.bool false,.slice none 0 0,.slice none 0 0]⟩ (by simp) (by decide)
       dsimp only at fa12 la12 ba12 na12
       have za12:=pa12 ⟨10,⟨9,56,3,#[.bool false,.slice none 0 0,.slice none 0 0]⟩,PA.frQdS (costP P X+costP P Y) 250001⟩ (by simp) (by show 10<11;decide) rfl rfl;clear pa12;clear hp hal;simp only[fa12];have h89:=Lib.hid hE;obtain⟨sb,sa1,sn1,sc1,sa2,sn2,sc2,hsv,hsq⟩:=FrQd.opn za12.1
       cases hsv
       have HSM:=Lib.hid (And.intro hsq za12.2);have BQ9:=BQ8.ext hE;have B29:=B28.ext hE;have HT29:=Lib.hid (HT28.out.ext hE);have EW9:=Lib.hid (EW.out.trans hE);clear za12 hsq hE BQ8 B28;go_wp2_with fail;refine wpQ [PP.val (.agg #[.bool tb,.slice t1 u1 v1,.slice t2 u2 v2]),PP.val (.agg #[.string n0,.string n1,.slice rb rm rd,.slice vb vn vd]),PP.val (.slice (some ⟨gz,0,none⟩) n zc),PP.frQS (costP P Z) 25000,PP.frQdS (costP P Z) (5*25000),PP.frQdS (costP P X+costP P Y) 250001,PP.val (.agg #[.bool sb,.slice sa1 sn1 sc1,.slice sa2 sn2 sc2]),PP.val (.int .i64 0),PP.val (.bool false)] [] [0,1,2,3,4,5,6,7,8] ?_ ?_
       ·refine⟨?_,?_,?_,?_,?_,?_,?_,?_,?_,trivial⟩
        ·intro f wz hG hp hl;have hE:Ext w9 wz:=hG;change OpGoal _ _ _ f wz Ext _;exact og_load (P:=Tryz.prog) _ _ g2 _ _ _ rfl rfl rfl (B29.ext hE) Tryz.underlying56 rfl (by kernel_rfl) rfl
        ·intro f wz hG hp hl;have hE:Ext w9 wz:=hG;change OpGoal _ _ _ f wz Ext _;exact og_load (P:=Tryz.prog) _ _ gq _ _ _ rfl rfl rfl (BQ9.ext hE) Tryz.underlying25 rfl (by kernel_rfl) rfl
        ·intro f wz hG hp hl;simp only[OpGoal];go_simp;exact⟨_,rfl,Ext.refl _,rfl⟩
        ·intro f wz hG hp hl;have hE:Ext w9 wz:=hG;have hS:=hE.size;have q81:=tE hp 0 1 rfl rfl rfl;have q82:=tE hp 1 2 rfl rfl rfl;change OpGoal _ _ _ f wz Ext _;refine oC #[f 1,f 2] Tryz.func38 rfl rfl ?_;rw[q81,q82];refine(mcost_calls 6 14 400 _ _ P Z _ (HPV8.out _ (h89.out.trans hE)) (HZL.out _ (h89.out.trans hE)) (by have:=HPL.out;omega) HC1.out HC2b.out).mono ?_;rintro e w' ⟨v',rfl,h1,hz,h2⟩;exact⟨v',rfl,h2,h1.mono hS,by have:=HC3b.out;omega⟩
        ·intro f wz hG hp hl;have hE:Ext w9 wz:=hG;have hS:=hE.size;have q83:=tellV hp 0 3 rfl rfl (fun _=>hE);change OpGoal _ _ _ f wz Ext _;refine oC #[f 3] Tryz.func31 rfl rfl ?_;refine(rqofR_calls _ (costP P Z) 25000 _ (q83.1.isR q83.2 (by omega)) (by omega)).mono ?_;rintro e w' ⟨v',rfl,h1,h2⟩;exact⟨v',rfl,h2,h1.mono hS,szD_of q83.2⟩
        ·intro f wz hG hp hl;have hE:Ext w9 wz:=hG;have hS:=hE.size;have q80:=tE hp 0 0 rfl rfl rfl;have q84:=tellV hp 1 4 rfl rfl (fun _=>hE);change OpGoal _ _ _ f wz Ext _;refine oC #[f 0,f 4] Tryz.func39 rfl rfl ?_;rw[q80];refine(rqmul3_calls _ _ ((2:Int):Rat) (costP P Z) 5 (5*25000) _ (HT29.out.ext hE).cq q84.1.cq (by decide+kernel) q84.2 (by omega)).mono ?_;rintro e w' ⟨v',rfl,h1,hz,h2⟩;rw[HCM.out]at h1 hz;exact⟨v',rfl,h2,h1.mono hS,by omega⟩
        ·intro f wz hG hp hl;have hE:Ext w9 wz:=hG;change OpGoal _ _ _ f wz Ext _;exact og_load (P:=Tryz.prog) _ _ ga12 _ _ _ rfl rfl rfl (ba12.ext hE) Tryz.underlying56 rfl (by kernel_rfl) rfl
        ·intro f wz hG hp hl;have hE:Ext w9 wz:=hG;have hS:=hE.size;have q85:=tellV hp 0 5 rfl rfl (fun _=>hE);have q86:=tE hp 1 6 rfl rfl rfl;change OpGoal _ _ _ f wz Ext _;refine oC #[f 5,f 6] Tryz.func29 rfl rfl ?_;rw[q86];refine(rqcmp3_calls _ _ (costP P X+costP P Y) (costP P X+costP P Y) 250001 250001 _ q85.1.cq (HSM.out.1.ext hE).cq q85.2 HSM.out.2 (by omega)).mono ?_;rintro e w' ⟨rfl,h2⟩;exact⟨_,rfl,h2,congrArg (Value.int .i64) (cmpR_selfM _)⟩
        ·intro f wz hG hp hl;have q87:=tE hp 0 7 rfl rfl rfl;simp only[OpGoal];go_simp;exact⟨_,rfl,Ext.refl _,rfl⟩
       ·intro f wc hG hp;have hE:Ext w9 wc:=ChgS.nil hG
        have q88:f 8= .bool false:=endV hp 8 (by decide) rfl (fun h=>by cases h)
        try simp only[q88]
        clear hp;have EWc:=EW9.out.trans hE;have h8c:=Lib.hid (h89.out.trans hE);have BQc:=BQ9.ext hE;have hq0:=BQc.cell 0;have hq1:=BQc.cell 1;have hq2:=BQc.cell 2;have hq3:=BQc.cell 3;clear hE BQ9 B29 ba12;go_wp2_with fail;refine(mholds_calls 6 6 1000 30 _ _ P X wc (HPV8.out _ h8c.out) (HX.out _ EWc) HPT.out (by omega) (by omega) (by omega) (by omega) (by omega)).mono ?_;rintro e wd ⟨rfl,ed⟩;obtain⟨d1,hd1⟩:∃d,d=holdsP P X:=⟨_,rfl⟩;rw[←hd1];have HD1:=Lib.hid hd1;have EWd:=EWc.trans ed;have h8d:=Lib.hid (h8c.out.trans ed);have BQd:=BQc.ext ed;clear hd1 hq0 hq1 hq2 hq3 BQc ed
        cases d1 with
        |false=>
         go_wp2;go_ret;exact⟨rfl,EWd⟩
        |true=>
         have hq0:=BQd.cell 0;have hq1:=BQd.cell 1;have hq2:=BQd.cell 2;have hq3:=BQd.cell 3;go_wp2_with fail;refine(mholds_calls 6 6 1000 30 _ _ P Y wd (HPV8.out _ h8d.out) (HY.out _ EWd) HPT.out (by omega) (by omega) (by omega) (by omega) (by omega)).mono ?_;rintro e we ⟨rfl,ee⟩;obtain⟨d2,hd2⟩:∃d,d=holdsP P Y:=⟨_,rfl⟩;rw[←hd2];have HD2:=Lib.hid hd2;have EWe:=EWd.trans ee;have h8e:=Lib.hid (h8d.out.trans ee);have BQe:=BQd.ext ee;clear hd2 hq0 hq1 hq2 hq3 BQd ee
         cases d2 with
         |false=>
          go_wp2;go_ret;exact⟨rfl,EWe⟩
         |true=>
          have HD3:=Lib.hid (HHM.out HD1.out.symm HD2.out.symm);have hq0:=BQe.cell 0;have hq1:=BQe.cell 1;have hq2:=BQe.cell 2;have hq3:=BQe.cell 3;go_wp2_with fail;refine(mholds_calls 6 14 1000 30 _ _ P Z we (HPV8.out _ h8e.out) (HZL.out _ h8e.out) HPT.out (by omega) (by omega) (by omega) (by omega) (by omega)).mono ?_;rw[HD3.out];rintro e wf ⟨rfl,ef⟩;go_wp2;go_ret;exact⟨rfl,EWe.trans ef⟩
     ·have hlt:(i:Int)<(xn:Int):=by omega
      have EX:=EM.out.trans (EMb.out.trans hE0);obtain⟨x,hx⟩:∃x,X[i]? =some x:=⟨_,List.getElem?_eq_getElem (by rw[←HXX.out];exact hin)⟩;obtain⟨y,hy⟩:∃y,Y[i]? =some y:=⟨_,List.getElem?_eq_getElem (by rw[←HYY.out];exact hin)⟩;obtain⟨_,_,_, -,hxe, -,hatx⟩:=(HX.out _ EX).at;simp only[Value.slice.injEq]at hxe;obtain⟨rfl,rfl,rfl⟩:=hxe;obtain⟨_,_,_, -,hye, -,haty⟩:=(HY.out _ EX).at;simp only[Value.slice.injEq]at hye;obtain⟨rfl,hyn2,rfl⟩:=hye;obtain⟨gx,ox,rfl,bx,a1,m1,c1,a2,m2,c2,hcx,hIX⟩:=hatx i x hx;obtain⟨gy,oy,rfl,by_,a3,m3,c3,a4,m4,c4,hcy,hIY⟩:=haty i y hy;have HXC:=Lib.hid hcx;have HXR:=Lib.hid hIX;have HYC:=Lib.hid hcy;have HYR:=Lib.hid hIY;have HTK:=Lib.hid (meanL_take hx hy);have HZX:=Lib.hid (szD_of hIX.sz);have HZY:=Lib.hid (szD_of hIY.sz);have HZM2:=Lib.hid (szQ_mean hIX.sz hIY.sz);have HZM:=Lib.hid (szD_of HZM2.out);have HZS:=Lib.hid (show szD (x+y)≤65 from szD_of (szQ_add hIX.sz hIY.sz));have HT2:=Lib.hid (HQ2.out.ext hE0);have B2r:=B2.ext hE0;obtain⟨hni,vs,hls,hvl,hvs⟩:=hS.out;have hzl:=meanL_len HXY.out;obtain⟨zs,hzs⟩:∃zs,zs=(meanL X Y).take i:=⟨_,rfl⟩
      have hzi:zs.length=i:=by rw[hzs,List.length_take,hzl,←HXX.out];omega
      rw[←hzs]at hvl hvs hni
      have hnv:n=vs.length:=by omega
      subst hnv;obtain⟨_,_, -, -, -,hown⟩:=hls.opn;obtain⟨-,hgzB,hgzl, -⟩:=hown gz rfl
      have hi30:vs.length≤30:=by omega
      have hsr:=hE0.size;have hS0:=HS0.out;have HLS:=Lib.hid hls;have HV:=Lib.hid (And.intro hvl hvs);have HZS2:=Lib.hid hzs
      have HVZ:Hid (vs.length=zs.length):=Lib.hid hvl
      clear hcx hIX hcy hIY hatx haty hx hy hS hls hvl hvs hzs hown hzl hni;go_wp2_with fail
      refine wp_region_one gz 16 17 (fun u b=>OL 41 3 S0 (FrK S0 14) b u (zs++ [meanQ x y])) [PP.val (.slice (some ⟨gz,0,none⟩) vs.length capo),PP.val (.slice (some ⟨gx,ox,none⟩) xn xc),PP.val (.int .i64 (i:Int)),PP.val (.pointer (some ⟨gx,ox+i*3,none⟩)),PP.val (.agg #[.bool bx,.slice a1 m1 c1,.slice a2 m2 c2]),PP.frQd x,PP.val (.slice (some ⟨gy,oy,none⟩) xn yc),PP.val (.int .i64 (i:Int)),PP.val (.pointer (some ⟨gy,oy+i*3,none⟩)),PP.val (.agg #[.bool by_,.slice a3 m3 c3,.slice a4 m4 c4]),PP.frQd y,PP.frQd (x+y),PP.val (.agg #[.bool tb,.slice t1 u1 v1,.slice t2 u2 v2]),PP.frQd (meanQ x y),PP.frQ (meanQ x y),PP.oneF (meanQ x y),PP.any,PP.any] [(0,17,10)] [16,15,14,13,12,11,10,9,8,7,6,5,4,3,2,1,0] (by kernel_rfl) (by kernel_rfl) (fun f=>(by simp only[fillR,fillL,List.setIfInBounds_toArray,List.set_cons_succ,List.set_cons_zero,Nat.reduceAdd];rfl)) (by decide) (hgzl) (fun u w1 w2 h hp=>OL.ext hp h fun _ _ k=>k.ext h) (by intro p hp;simp only[List.mem_cons,List.not_mem_nil,or_false]at hp;rcases hp with rfl |rfl |rfl |rfl |rfl |rfl |rfl |rfl |rfl |rfl |rfl |rfl |rfl |rfl |rfl |rfl |rfl |rfl<;>rfl) (fun _ _=>trivial) ?_ ?_ (by decide)
      ·refine⟨?_,?_,?_,?_,?_,?_,?_,?_,?_,?_,?_,?_,?_,?_,?_,?_,?_,?_,trivial⟩
       ·intro f w7 hG hp hl
        have l10:f 17= .slice (some ⟨gz,0,none⟩) vs.length capo:=hl.1 rfl
        simp only[OpGoal];go_simp;exact⟨_,rfl,Ext.refl _,rfl⟩
       ·intro f w7 hG hp hl;simp only[OpGoal];go_simp;exact⟨_,rfl,Ext.refl _,rfl⟩
       ·intro f w7 hG hp hl;simp only[OpGoal];go_simp;exact⟨_,rfl,Ext.refl _,rfl⟩
       ·intro f w7 hG hp hl
        have q54:f 1= .slice (some ⟨gx,ox,none⟩) xn xc:=tellO hp 0 1 rfl rfl
        have q55:f 2= .int .i64 (i:Int):=tellO hp 1 2 rfl rfl
        simp only[OpGoal];go_simp;exact⟨_,rfl,Ext.refl _,rfl⟩
       ·intro f w7 hG hp hl;have hE:Ext wr w7:=hG
        have q56:f 3= .pointer (some ⟨gx,ox+i*3,none⟩):=tellO hp 0 3 rfl rfl
        exact og_loadAt (P:=Tryz.prog) _ _ gx (ox+i*3) _ _ rfl rfl q56 (HXC.out _ hE) Tryz.underlying41 rfl (by kernel_rfl) rfl
       ·intro f w7 hG hp hl;have hE:Ext wr w7:=hG;have hS:=hE.size
        have q57:f 4= .agg #[.bool bx,.slice a1 m1 c1,.slice a2 m2 c2]:=tellO hp 0 4 rfl rfl
        change OpGoal _ _ _ f w7 Ext _;refine oC #[f 4] Tryz.func31 rfl rfl ?_;rw[q57];refine(rqofR_calls _ x 6 _ (HXR.out.ext hE) (by omega)).mono ?_;rintro e w' ⟨v',rfl,h1,h2⟩;exact⟨v',rfl,h2,h1.mono hS⟩
       ·intro f w7 hG hp hl;simp only[OpGoal];go_simp;exact⟨_,rfl,Ext.refl _,rfl⟩
       ·intro f w7 hG hp hl;simp only[OpGoal];go_simp;exact⟨_,rfl,Ext.refl _,rfl⟩
       ·intro f w7 hG hp hl
        have q59:f 6= .slice (some ⟨gy,oy,none⟩) xn yc:=tellO hp 0 6 rfl rfl
        have q60:f 7= .int .i64 (i:Int):=tellO hp 1 7 rfl rfl
        simp only[OpGoal];go_simp;exact⟨_,rfl,Ext.refl _,rfl⟩
       ·intro f w7 hG hp hl;have hE:Ext wr w7:=hG
        have q61:f 8= .pointer (some ⟨gy,oy+i*3,none⟩):=tellO hp 0 8 rfl rfl
        exact og_loadAt (P:=Tryz.prog) _ _ gy (oy+i*3) _ _ rfl rfl q61 (HYC.out _ hE) Tryz.underlying41 rfl (by kernel_rfl) rfl
       ·intro f w7 hG hp hl;have hE:Ext wr w7:=hG;have hS:=hE.size
        have q62:f 9= .agg #[.bool by_,.slice a3 m3 c3,.slice a4 m4 c4]:=tellO hp 0 9 rfl rfl
        change OpGoal _ _ _ f w7 Ext _;refine oC #[f 9] Tryz.func31 rfl rfl ?_;rw[q62];refine(rqofR_calls _ y 6 _ (HYR.out.ext hE) (by omega)).mono ?_;rintro e w' ⟨v',rfl,h1,h2⟩;exact⟨v',rfl,h2,h1.mono hS⟩
       ·intro f w7 hG hp hl;have hE:Ext wr w7:=hG;have hS:=hE.size;have q58:=tellO hp 0 5 rfl rfl;have q63:=tellO hp 1 10 rfl rfl;change OpGoal _ _ _ f w7 Ext _;refine oC #[f 5,f 10] Tryz.func37 rfl rfl ?_;refine(rqadd3_calls _ _ x y 30 30 _ q58.cq q63.cq HZX.out HZY.out (by omega)).mono ?_;rintro e w' ⟨v',rfl,h1,hz,h2⟩;exact⟨v',rfl,h2,h1.mono hS⟩
       ·intro f w7 hG hp hl;have hE:Ext wr w7:=hG;change OpGoal _ _ _ f w7 Ext _;exact og_load (P:=Tryz.prog) _ _ g2 _ _ _ rfl rfl rfl (B2r.ext hE) Tryz.underlying56 rfl (by kernel_rfl) rfl
       ·intro f w7 hG hp hl;have hE:Ext wr w7:=hG;have hS:=hE.size;have q64:=tellO hp 0 11 rfl rfl
        have q65:f 12= .agg #[.bool tb,.slice t1 u1 v1,.slice t2 u2 v2]:=tellO hp 1 12 rfl rfl
        change OpGoal _ _ _ f w7 Ext _;refine oC #[f 11,f 12] Tryz.func36 rfl rfl ?_;rw[q65];refine(rqdiv3_calls _ _ (x+y) ((2:Int):Rat) 65 5 _ q64.cq (HT2.out.ext hE).cq (by decide) HZS.out (by decide+kernel) (by omega)).mono ?_;rintro e w' ⟨v',rfl,h1,h2⟩;exact⟨v',rfl,h2,h1.mono hS⟩
       ·intro f w7 hG hp hl;have hE:Ext wr w7:=hG;have hS:=hE.size;have q66:=tellO hp 0 13 rfl rfl;change OpGoal _ _ _ f w7 Ext _;refine oC #[f 13] Tryz.func35 rfl rfl ?_;refine(rqto3_calls _ (meanQ x y) _ q66.cq (by have:=HZM.out;omega)).mono ?_;rintro e w' ⟨v',rfl,h1,h2⟩;exact⟨v',rfl,h2,h1.mono hS⟩
       ·intro f w7 hG hp hl;have hE:Ext wr w7:=hG;have hS:=hE.size;have q67:=tellO hp 0 14 rfl rfl;obtain⟨b',a1',n1',c1',a2',n2',c2',hv,hq⟩:=FrQ.opn q67;change OpGoal _ _ _ f w7 Ext _;exact og_buildSlice (P:=Tryz.prog) 49 41 1 3 _ [.agg #[.bool b',.slice a1' n1' c1',.slice a2' n2' c2']] rfl rfl Tryz.underlying49 (by kernel_rfl) (by kernel_rfl) (by simp only[Act.eval];exact congrArg (fun z=> [(0,z)]) hv) rfl (by omega) (by omega) (by omega) (StrN.one rfl (all3 rfl rfl rfl)).size (fun w' he hb=>⟨_,_,_,_,_,_,_,_,hS,rfl,hb,hq.ext he⟩)
       ·intro f w7 hG hp hl;have hE:Ext wr w7:=hG;have hS:=hE.size
        have q53:f 0= .slice (some ⟨gz,0,none⟩) vs.length capo:=tellO hp 0 0 rfl rfl
        have q68:=tellO hp 1 15 rfl rfl
        have qL:f 0= .slice (some ⟨gz,0,none⟩) vs.length capo:=tellO hp 0 0 rfl rfl
        obtain⟨gb,b',a1',n1',c1',a2',n2',c2',hgb,hvb,hbb,hqb⟩:=tellO hp 1 15 rfl rfl;change OpGoal _ _ _ f w7 (Chg gz) _
        refine og_append (P:=Tryz.prog) _ _ 49 rfl rfl S0 41 3 56 Tryz.underlying49 (by kernel_rfl) (by kernel_rfl) (by omega) (.slice (some ⟨gz,0,none⟩) vs.length capo) vs.length (flatS vs) qL (HLS.out.ext hE).2 ⟨gb,0,none⟩ 1 1 [.bool b',.slice a1' n1' c1',.slice a2' n2' c2'] hvb rfl (fun j u hj=>by rw[addr_add,Nat.zero_add,hbb.cell];simpa using hj) (by intro u hu;simp at hu;rcases hu with rfl |rfl |rfl<;>rfl) (by omega) (by unfold maxLen;omega) (by omega) (by omega) (fun v' w' h1 h2 h3=>⟨h2,?_⟩)
        have hL7:LS 41 3 S0 w' v' (vs++ [.agg #[.bool b',.slice a1' n1' c1',.slice a2' n2' c2']]):=⟨(HLS.out.1).app (.one rfl (all3 rfl rfl rfl)),by rw[flatS_append,List.length_append];exact h1⟩;exact OL.app (w:=w7) HV.out.1 (fun i u y a b=>(HV.out.2 i u y a b).ext hE) hL7 (fun u y k=>FrK.grow k (HLS.out.ext hE) h2) (FrK.grow ⟨hqb.mono (by omega),HZM2.out⟩ (HLS.out.ext hE) h2)
       ·intro f w7 hG hp hl;have hS:wr.heap.size≤w7.heap.size:=Chg.size hG;change OpGoal _ _ _ f w7 Ext _;simp only[OpGoal];go_simp;exact⟨_,rfl,Ext.refl _,rfl⟩
      ·intro f w7 hC hF1 hmv hp;clear hp;have hE7:Ext wb w7:=hE0.step hC (by omega);obtain⟨vs7,hls7,hvl7,hvs7⟩:=hF1;obtain⟨gz7,cap7,_,hfv, -⟩:=hls7.hold (by rw[hvl7,List.length_append];simp);have hmv':=hmv (by decide)
       have hl7:vs7.length=vs.length+1:=by rw[hvl7,List.length_append,HVZ.out];rfl
       rw[hl7]at hfv;rw[hfv]at hls7 hmv';have HF7:=Lib.hid (show OL 41 3 S0 (FrK S0 14) w7 (.slice (some ⟨gz7,0,none⟩) (vs.length+1) cap7) (zs++ [meanQ x y])from⟨vs7,hls7,hvl7,hvs7⟩)
       (try rw[hmv'])
       (try rw[hfv])
       clear hls7 hvl7 hvs7 hmv hC;go_wp2;go_roundw
       case rel=>exact ⟨i+1,gz7,cap7,vs.length+1,by omega,congrArg (Value.int .i64) (by omega),(by first |rfl |exact hmv' |simp_all),Lib.hid ⟨by rw[HTK.out,←HZS2.out,List.length_append,HVZ.out];rfl,by rw[HTK.out,←HZS2.out];exact HF7.out⟩,hE7⟩
       case measure=>simp [intOf];omega
   ·have hlt:(i:Int)<(vn:Int):=by omega
    obtain⟨hB,hR,hV⟩:=hS.out;obtain⟨y,hy⟩:∃y,vars[i]? =some y:=⟨_,List.getElem?_eq_getElem (by rw[←HVN.out];exact hin)⟩;obtain⟨gv,nv,cv,cs,hve,hnv,hgB,hgl,hbv,hsz⟩:=hV.flag (i:=i) (by rw[unV_len,←HVN.out];exact hin);simp only[Value.slice.injEq]at hve;obtain⟨rfl,rfl,rfl⟩:=hve;obtain⟨u0,hu0⟩:∃u,cs[i*13+1]? =some u:=⟨_,Array.getElem?_eq_getElem hsz⟩
    have hcell:wr.cell? ⟨gv,i*13+1,none⟩=some u0:=by rw[hbv.cell];exact hu0
    have hfree:=hbv.free (i*13+1);have hbs:=hB.cell 3;have HST:=Lib.hid (And.intro hB (And.intro hR (And.intro hV (And.intro hbv hy))));have hgle:=hgB;clear hS hB hR hV hy hu0 hsz hbv hnv;go_wp2;go_roundw
    case rel=>
     have hc:=Chg.setCell wr gv (i*13+1) (.bool false);exact⟨i+1,by omega,congrArg (Value.int .i64) (by omega),Lib.hid ⟨HST.out.1.chg hc (Bx.ne HST.out.1 HST.out.2.2.2.1 (by decide)),HST.out.2.1.chgB hc HST.out.2.2.2.1 (by decide) (by decide) (by decide),by rw[unV_succ HST.out.2.2.2.2];exact HST.out.2.2.1.unset (unV_at HST.out.2.2.2.2) rfl⟩,hE0.step hc hgB⟩
    case measure=>simp [intOf];omega
 ·have hne2:((xn:Int) !=(yn:Int))=true:=by rw[bne_iff_ne];omega
  go_wp2;go_ret;exact⟨rfl,E5⟩
end Go.Proofs.YtbmnlaepfckmkaaGreat
