/-
 Constraints: the document's sums of constraints (cutwaterref11.Combine).
-/
import Derived.Test.YtokfaggcojokgaaGreatCniZ
namespace Go.Proofs.YtokfaggcojokgaaGreat
set_option maxRecDepth 100000
set_option maxHeartbeats 1000000
open Go.RowKit
set_option linter.unusedVariables false
set_option linter.unusedSimpArgs false
theorem rulesN_bad{s:Int}{qs:List Rat}{cs:List CR}{i n:Nat}{q:Rat}{c:CR}(hq:qs[i]? =some q)(hc:cs[i]? =some c)(hi:i<n)(h:ruleQ s q c=false):rulesN s qs cs n=false:=by
 cases hr:rulesN s qs cs n
 ·rfl
 ·have:=rulesN_at hr i hi
  rw[getD_of hq,getD_of hc,h]at this
  cases this
theorem rhs_cells{wz:World}{g o:Nat}{b s t:Value}(h2:wz.cell? ⟨g,o+2,none⟩=some b)(h3:wz.cell? ⟨g,o+3,none⟩=some s)(h4:wz.cell? ⟨g,o+4,none⟩=some t):∀(j:Nat) (v:Value),(#[b,s,t]:Array Value)[j]? =some v→wz.cell? ⟨g,o+2+j,none⟩=some v:=by
 intro j v hj
 match j,hj with
 |0,hj=>cases hj;exact h2
 |1,hj=>cases hj;exact h3
 |2,hj=>cases hj;exact h4
 |j+3,hj=>simp at hj
def SumQ(B g:Nat)(r:Rat)(w:World):Prop:=∃b a1 n1 c1 a2 n2 c2,Bx 81 w g #[.bool b,.slice a1 n1 c1,.slice a2 n2 c2]∧FrQd B w (.agg #[.bool b,.slice a1 n1 c1,.slice a2 n2 c2]) r
theorem SumQ.ext{B g:Nat}{r:Rat}{w w':World}(h:SumQ B g r w)(he:Ext w w'):SumQ B g r w':=by
 obtain⟨b,a1,n1,c1,a2,n2,c2,h1,h2⟩:=h;exact⟨b,a1,n1,c1,a2,n2,c2,h1.ext he,h2.ext he⟩
theorem SumQ.chg{B g g':Nat}{r:Rat}{w w':World}(h:SumQ B g r w)(he:Chg g' w w')(hne:g'≠g)(hg:g'<B):SumQ B g r w':=by
 obtain⟨b,a1,n1,c1,a2,n2,c2,h1,h2⟩:=h;exact⟨b,a1,n1,c1,a2,n2,c2,h1.chg he (by omega),h2.chg he hg⟩
def CdJ(w:World)(K R g6 g9 g10:Nat)(s:Int)(qs:List Rat)(cs:List CR)(i:Nat)(wr:World):Prop:=
 Ext w wr∧(g6<g9∧g9<g10∧w.heap.size≤g6)∧Bx 36 wr g6 #[.int .i64 0,.slice none 0 0,.bool false,.slice none 0 0,.slice none 0 0]∧
 (∃a n p,Bx 36 wr g9 #[.int .i64 s,.slice a n p,.bool false,.slice none 0 0,.slice none 0 0]∧TO w.heap.size K wr (.slice a n p) (mkV (catN qs (termsC cs) i)))∧SumQ w.heap.size g10 (rhsN qs cs i) wr∧szQ (rhsN qs cs i)≤R
theorem CdJ.ext{w wr w':World}{K R g6 g9 g10:Nat}{s:Int}{qs:List Rat}{cs:List CR}{i:Nat}(h:CdJ w K R g6 g9 g10 s qs cs i wr)(he:Ext wr w'):CdJ w K R g6 g9 g10 s qs cs i w':=by
 obtain⟨h1,h2,h3,⟨a,n,p,h4,h5⟩,h6,h7⟩:=h;exact⟨h1.trans he,h2,h3.ext he,⟨a,n,p,h4.ext he,h5.ext he⟩,h6.ext he,h7⟩
theorem CdJ.same{w wr:World}{K R g6 g9 g10:Nat}{s:Int}{qs:List Rat}{cs:List CR}{i j:Nat}(h:CdJ w K R g6 g9 g10 s qs cs i wr)(e1:mkV (catN qs (termsC cs) j)=mkV (catN qs (termsC cs) i))(e2:rhsN qs cs j=rhsN qs cs i):CdJ w K R g6 g9 g10 s qs cs j wr:=by
 obtain⟨h1,h2,h3,⟨a,n,p,h4,h5⟩,h6,h7⟩:=h;exact⟨h1,h2,h3,⟨a,n,p,h4,e1▸h5⟩,e2▸h6,e2▸h7⟩
set_option maxHeartbeats 32000000 in
theorem combine11_calls(k ky N M K R:Nat)(v u:Value)(cs0:List CR)(qs:List Rat)(s:Int)(w:World)(hv:CL k w v cs0)(hu:QL ky w u qs)(hN:∀c∈cs0,c.2.1.length≤N)(hM:cs0.length≤M)(h30:M*N+N≤1000)
  (hK:M*N*(ky+k+1)+1≤K) (hkK:k≤K) (hkyK:ky≤K) (hKm:K+K≤1000000) (hR:M*(ky+k+1)+1≤R) (hR2:R≤1000000) (h1:1≤R):
  Calls Tryz.prog 21 #[v,u,.int .i64 s] w fun e w'=>CombP w (max K R) cs0 qs s e w':=by
 have hszc:=hv.szs;have hszq:=hu.szs;obtain⟨ad,n,cap,hnl,rfl,hn1,hat⟩:=hv.at;obtain⟨adq,nq,capq,hnq,rfl,hnq1,hatq⟩:=hu.at
 have lim:68719476736≤LIM:=by rw[LIM_eq];omega
 have HN:=Lib.hid hnl;have HNQ:=Lib.hid hnq;have HAT:=Lib.hid hat;have HATQ:=Lib.hid hatq;have HLN:=Lib.hid hN;have HSC:=Lib.hid (And.intro hszq hszc);have HKK:=Lib.hid (And.intro hkK (And.intro hkyK (And.intro hK hR)));rw[←HN.out]at hM;clear hnl hnq hat hatq hv hu hN hszc hszq hK hR;obtain⟨g6,hg6⟩:∃g6,g6=w.heap.size:=⟨_,rfl⟩;obtain⟨w1,hw1,e1,b6,s1⟩:=alloc1 w #[.int .i64 0,.slice none 0 0,.bool false,.slice none 0 0,.slice none 0 0] 36;rw[←hg6]at b6
 go_enter Tryz.func21,Tryz.ntmps21
 go_wp2_with fail;rw[←hw1];rw[←hg6];refine(sense11_calls s w1).mono ?_;rintro e w2 ⟨rfl,e2⟩;have hs2:=e2.size;have E2:=e1.trans e2;have B2:=b6.ext e2
 have hg6w:w.heap.size≤g6:=by omega
 have hgl2:g6<w2.heap.size:=by omega
 clear b6 hw1 e1 e2 hg6 s1
 cases hs:sens s with
 |false=>
  have HE:=Lib.hid (combE_2 (cs:=cs0) (qs:=qs) (s:=s) (.inl hs));have XB:=Lib.hid E2;clear hs E2;have hq:=B2;have hq0:=hq.cell 0;have hqf0:=hq.free 0;have hq1:=hq.cell 1;have hqf1:=hq.free 1;have hq2:=hq.cell 2;have hqf2:=hq.free 2;have hq3:=hq.cell 3;have hqf3:=hq.free 3;have hq4:=hq.cell 4;have hqf4:=hq.free 4;go_wp2;refine ret_box2 6 7 36 g6 36 _ _ _ (by kernel_rfl) rfl rfl (((((hq.set 0 _).set 1 _).set 2 _).set 3 _).set 4 _) Tryz.underlying36 rfl (by kernel_rfl) rfl ?_;exact⟨zeroC,by rw[HE.out];rfl,XB.out.step (((((Chg.setCell _ g6 0 _).trans (Chg.setCell _ g6 1 _)).trans (Chg.setCell _ g6 2 _)).trans (Chg.setCell _ g6 3 _)).trans (Chg.setCell _ g6 4 _)) hg6w,fun h=>(by rw[HE.out]at h;cases h),fun _=>rfl⟩
 |true=>
 have HS:=Lib.hid hs;clear hs
 by_cases hnn:n=nq
 case neg=>
  have hne:((n:Int) !=(nq:Int))=true:=by rw[bne_iff_ne];omega
  have HE:=Lib.hid (combE_2 (cs:=cs0) (qs:=qs) (s:=s) (.inr (.inl (by rw[←HN.out,←HNQ.out];exact hnn))));have XB:=Lib.hid E2;clear E2;have hq:=B2;have hq0:=hq.cell 0;have hqf0:=hq.free 0;have hq1:=hq.cell 1;have hqf1:=hq.free 1;have hq2:=hq.cell 2;have hqf2:=hq.free 2;have hq3:=hq.cell 3;have hqf3:=hq.free 3;have hq4:=hq.cell 4;have hqf4:=hq.free 4;go_wp2;refine ret_box2 6 7 36 g6 36 _ _ _ (by kernel_rfl) rfl rfl (((((hq.set 0 _).set 1 _).set 2 _).set 3 _).set 4 _) Tryz.underlying36 rfl (by kernel_rfl) rfl ?_;exact⟨zeroC,by rw[HE.out];rfl,XB.out.step (((((Chg.setCell _ g6 0 _).trans (Chg.setCell _ g6 1 _)).trans (Chg.setCell _ g6 2 _)).trans (Chg.setCell _ g6 3 _)).trans (Chg.setCell _ g6 4 _)) hg6w,fun h=>(by rw[HE.out]at h;cases h),fun _=>rfl⟩
 case pos=>
 subst hnn;have HNN:=Lib.hid (HN.out.symm.trans HNQ.out)
 have hnf:((n:Int) !=(n:Int))=false:=by simp
 go_wp2_with fail;clear hnf
 go_loopw [8] (fun s8 wr=>∃i:Nat,i≤n∧s8= .int .i64 (i:Int)∧Hid (∀c∈cs0.take i,sens c.1=true)∧Ext w2 wr) (fun s8 _=>((n:Int) - intOf s8).toNat)
 case atStart=>exact ⟨0,Nat.zero_le _,rfl,Lib.hid (fun c hc=>by simp at hc),Ext.refl _⟩
 case round=>
 obtain⟨i,hi,rfl,HSN0,hE0⟩:=hrel;have E0:=E2.trans hE0;have D:=B2.ext hE0
 rcases Nat.eq_or_lt_of_le hi with hin |hin
 ·subst hin
  have hlt:¬((i:Int)<(i:Int)):=by omega
  have HSN:Hid (∀c∈cs0,sens c.1=true):=Lib.hid fun c hc=>HSN0.out c (by rw[HN.out,List.take_length];exact hc)
  have hgr:g6<wr.heap.size:=D.lt;clear HSN0 E2 B2 hE0;obtain⟨w3,hw3,e3,b9,s3⟩:=alloc1 wr #[.int .i64 s,.slice none 0 0,.bool false,.slice none 0 0,.slice none 0 0] 36;obtain⟨g9,hg9⟩:∃g9,g9=wr.heap.size:=⟨_,rfl⟩;go_wp2_with fail;rw[←hw3,←hg9];rw[←hg9]at b9;refine(rqsmall3_calls 0 w3 (by omega) (by omega)).mono ?_;rintro e w4 ⟨v4,rfl,hq4,e4⟩;obtain⟨tb,t1,u1,v1,t2,u2,v2,rfl,hq4⟩:=hq4.opn;obtain⟨w5,hw5,e5,b10,s5⟩:=alloc1 w4 #[.bool tb,.slice t1 u1 v1,.slice t2 u2 v2] 81;obtain⟨g10,hg10⟩:∃g10,g10=w4.heap.size:=⟨_,rfl⟩;have hs4:=e4.size;have HJ0:Hid (CdJ w K R g6 g9 g10 s qs cs0 0 w5):=Lib.hid ⟨((E0.trans e3).trans e4).trans e5,⟨by omega,by omega,hg6w⟩,((D.ext e3).ext e4).ext e5,⟨none,0,0,(b9.ext e4).ext e5,TO.nil0 _ _ _⟩,⟨tb,t1,u1,v1,t2,u2,v2,by rw[hg10];exact b10,(hq4.ext e5).mono (by have:=E0.size;omega)⟩,Nat.le_trans szQ_zero h1⟩;clear hq4 b9 b10 e3 e4 e5 E0 D s5 s3 hs4 hw3 hg9;go_wp2_with fail;rw[←hw5,←hg10];clear hw5 hg10;obtain⟨n,rfl⟩:∃n,n=i:=⟨_,rfl⟩
  go_loopw [11] (fun s11 wr=>∃i:Nat,i≤n∧s11= .int .i64 (i:Int)∧Hid (rulesN s qs cs0 i=true)∧Hid (CdJ w K R g6 g9 g10 s qs cs0 i wr)) (fun s11 _=>((n:Int) - intOf s11).toNat)
  case atStart=>exact ⟨0,Nat.zero_le _,rfl,Lib.hid rfl,HJ0⟩
  case round=>
  obtain⟨i,hi,rfl,HRN0,HJ⟩:=hrel;obtain⟨E0,HG',D,⟨a,n',p,S,hto⟩,⟨tb,t1,u1,v1,t2,u2,v2,T,hfr⟩,hrs⟩:=HJ.out;have HG:=Lib.hid HG';obtain⟨hg69,hg910, -⟩:=HG';have HTO:=Lib.hid hto;have HSR0:=Lib.hid hfr;have HRS:=Lib.hid hrs;clear HJ hto hfr hrs HJ0
  rcases Nat.eq_or_lt_of_le hi with hin |hin
  ·subst hin
   have hlt:¬((i:Int)<(i:Int)):=by omega
   have hE:=combE_r (qs:=qs) HS.out HNN.out HSN.out;rw[←HN.out,HRN0.out]at hE
   have HE:Hid (combE cs0 qs s=0):=Lib.hid hE
   have HV:=Lib.hid (show combV cs0 qs s=(s,mkV (catN qs (termsC cs0) i),rhsN qs cs0 i)by unfold combV;rw[←HN.out]);have ht0:=T.cell 0;have ht1:=T.cell 1;have ht2:=T.cell 2;clear hE;go_wp2_with fail;refine(rqto3_calls _ (rhsN qs cs0 i) wr HSR0.out.cq (Nat.le_trans (szD_of HRS.out) (by omega))).mono ?_;rintro e w4 ⟨v4,rfl,hq4,e4⟩;obtain⟨bb,ad1,m1,x1,ad2,m2,x2,rfl,hfr⟩:=FrQ.opn hq4;have hp:=S.ext e4;have hq0:=D.ext e4;have X4:=Lib.hid (E0.trans e4);have T4:=Lib.hid (HTO.out.ext e4);have hs4:=e4.size;have Q4:=Lib.hid (hfr.mono (show w.heap.size≤_ from E0.size));have hp0:=hp.cell 0;have hpf0:=hp.free 0;have hp1:=hp.cell 1;have hpf1:=hp.free 1;have hp2:=hp.cell 2;have hpf2:=hp.free 2;have hp3:=hp.cell 3;have hpf3:=hp.free 3;have hp4:=hp.cell 4;have hpf4:=hp.free 4;clear hq4 hfr e4 E0 D S T ht0 ht1 ht2 HSR0 HTO
   go_upto_region 21 with(fail)
   obtain⟨w6,hw6,hc3,hb⟩:=put3 hp (.bool bb) (.slice ad1 m1 x1) (.slice ad2 m2 x2);rw[←hw6];have hq:=hq0.chg hc3 (by omega);clear hw6 hp0 hp1 hp2 hp3 hp4 hpf0 hpf1 hpf2 hpf3 hpf4 hq0;have X6:=Lib.hid (X4.out.step hc3 (by omega));have T6:=Lib.hid (TO.chgB T4.out hc3 hp (by decide) (by decide));have Q6:=Lib.hid (FrQ.chgB Q4.out hc3 hp (by decide));clear hp hc3;have hb0:=hb.cell 0;have hb1:=hb.cell 1;have hb2:=hb.cell 2;have hb3:=hb.cell 3;have hb4:=hb.cell 4;have hq0:=hq.cell 0;have hqf0:=hq.free 0;have hq1:=hq.cell 1;have hqf1:=hq.free 1;have hq2:=hq.cell 2;have hqf2:=hq.free 2;have hq3:=hq.cell 3;have hqf3:=hq.free 3;have hq4:=hq.cell 4;have hqf4:=hq.free 4;go_wp2;refine ret_box2 6 7 36 g6 36 _ _ _ (by kernel_rfl) rfl rfl (((((hq.set 0 _).set 1 _).set 2 _).set 3 _).set 4 _) Tryz.underlying36 rfl (by kernel_rfl) rfl ?_
   refine⟨_,by rw[HE.out]<;>rfl,X6.out.step (((((Chg.setCell _ g6 0 _).trans (Chg.setCell _ g6 1 _)).trans (Chg.setCell _ g6 2 _)).trans (Chg.setCell _ g6 3 _)).trans (Chg.setCell _ g6 4 _)) hg6w,fun _=> ?_,fun h=>absurd HE.out h⟩
   rw[HV.out];exact⟨a,n',p,bb,ad1,m1,x1,ad2,m2,x2,rfl,(TO.chgB T6.out ((((((Chg.setCell _ g6 0 _).trans (Chg.setCell _ g6 1 _)).trans (Chg.setCell _ g6 2 _)).trans (Chg.setCell _ g6 3 _)).trans (Chg.setCell _ g6 4 _)):Chg g6 _ _) hq (by decide) (by decide)).le (Nat.le_max_left ..),FrQ.chgB Q6.out ((((((Chg.setCell _ g6 0 _).trans (Chg.setCell _ g6 1 _)).trans (Chg.setCell _ g6 2 _)).trans (Chg.setCell _ g6 3 _)).trans (Chg.setCell _ g6 4 _)):Chg g6 _ _) hq (by decide),Nat.le_trans HRS.out (Nat.le_max_right ..)⟩
  ·have hlt:(i:Int)<(n:Int):=by omega
   obtain⟨⟨cs,r,x⟩,hc⟩:∃c,cs0[i]? =some c:=⟨_,List.getElem?_eq_getElem (by rw[←HN.out];exact hin)⟩;obtain⟨q,hqq⟩:∃q,qs[i]? =some q:=⟨_,List.getElem?_eq_getElem (by rw[←HNQ.out];exact hin)⟩;obtain⟨g,off,rfl,ay,ny,py,bby,a1y,n1y,c1y,a2y,n2y,c2y,hcell,hTL,hRX⟩:=HAT.out i _ hc;obtain⟨gq,offq,rfl,yb,y1,z1,p1,y2,z2,p2,hycell,hyR⟩:=HATQ.out i _ hqq
   simp only at hcell hTL hRX
   have HC:=Lib.hid hc;have HQ:=Lib.hid hqq;have HCX:=Lib.hid hcell;have HYC:=Lib.hid hycell;have HYR:=Lib.hid hyR;have HTL:=Lib.hid hTL;have HRX:=Lib.hid hRX;clear hc hqq hcell hycell hyR hTL hRX;have hy0:=HYC.out wr E0 0 _ rfl;have hy1:=HYC.out wr E0 1 _ rfl;have hy2:=HYC.out wr E0 2 _ rfl;rw[Nat.add_zero]at hy0;go_wp2_with fail;refine(rqofR_calls _ q ky wr (HYR.out.ext E0) (by have:=HKK.out.2.1;omega)).mono ?_;rintro e w3 ⟨v3,rfl,hq3,e3⟩;obtain⟨qb,qa1,qn1,qc1,qa2,qn2,qc2,rfl,hq3⟩:=hq3.opn;obtain⟨w4,hw4,e4,b12,s4⟩:=alloc1 w3 #[.bool qb,.slice qa1 qn1 qc1,.slice qa2 qn2 qc2] 81;have H4:=Lib.hid (hq3.ext e4);have hu0:=b12.cell 0;have hu1:=b12.cell 1;have hu2:=b12.cell 2;rw[hw4]at hu0 hu1 hu2;have hs3:=e3.size;clear hq3 hy0 hy1 hy2;go_wp2_with fail;rw[←hw4];refine(rqsign3_calls _ q w4 H4.out.cq).mono ?_;rintro e w5 ⟨rfl,e5⟩;have e35:=(e3.trans e4).trans e5;have X5:=E0.trans e35;have D5:=D.ext e35;have S5:=S.ext e35;have T5:=T.ext e35;have P5:=b12.ext e5;have HQD:=Lib.hid (H4.out.ext e5 |>.mono (show w.heap.size≤_ by have:=E0.size;omega));have HSV:=Lib.hid (HTO.out.ext e35);have HSR:=Lib.hid (HSR0.out.ext e35);have hs5:=e35.size;have hl9:=S5.lt;have hl10:=T5.lt;have hl12:=P5.lt
   have hne12:g10<w3.heap.size:=by have:=T.lt;omega
   have hRS:=rulesN_succ (s:=s) HQ.out HC.out
   by_cases hqz:q=0
   ·subst hqz
    have HRN:Hid (rulesN s qs cs0 (i+1)=true):=Lib.hid (by rw[hRS,HRN0.out,rule_zero];rfl)
    have HJ:Hid (CdJ w K R g6 g9 g10 s qs cs0 (i+1) w5):=Lib.hid ((CdJ.ext ⟨E0,HG.out,D,⟨a,n',p,S,HTO.out⟩,⟨tb,t1,u1,v1,t2,u2,v2,T,HSR0.out⟩,HRS.out⟩ e35).same (mkC_skip HQ.out HC.out) (rhsN_skip HQ.out HC.out));rw[sgn_zero];clear hRS D S T D5 S5 T5 P5 hw4 hu0 hu1 hu2;go_wp2;go_roundw
    case rel=>exact ⟨i+1,by omega,congrArg (Value.int .i64) (by omega),HRN,HJ⟩
    case measure=>simp [intOf];omega
   clear hRS hw4 hu0 hu1 hu2 e3 e4 e5 e35 b12 s4;have hcx:=HCX.out w5 X5;obtain⟨hd0,hd1,hd2,hd3,hd4⟩:=hcx;have HMK:=Lib.hid (mkC_step HQ.out HC.out);have HRH:=Lib.hid (rhsN_succ HQ.out HC.out)
   simp only at HMK HRH
   have hiM:i+1≤M:=by omega
   have hcl:=catN_len (ys:=qs) (rows:=termsC cs0) (N:=N) (fun r hr=>by
    unfold termsC at hr;obtain⟨c,hc,rfl⟩:=List.mem_map.1 hr
    exact HLN.out c hc) (i+1)
   have hcl0:=catN_len (ys:=qs) (rows:=termsC cs0) (N:=N) (fun r hr=>by
    unfold termsC at hr;obtain⟨c,hc,rfl⟩:=List.mem_map.1 hr
    exact HLN.out c hc) i
   have hm1:(i+1)*N≤M*N:=Nat.mul_le_mul_right _ hiM;have hm0:i*N≤M*N:=Nat.mul_le_mul_right _ (by omega)
   have htl:(termsC cs0).length=cs0.length:=by unfold termsC;rw[List.length_map]
   have hSZ:∀t∈mkV (catN qs (termsC cs0) (i+1)),szQ t.2≤K:=sz_le (catN_szs HSC.out.1 (fun r hr=>by
    unfold termsC at hr;obtain⟨c,hc,rfl⟩:=List.mem_map.1 hr
    exact(HSC.out.2 c hc).1) (by rw[←HNQ.out];omega) (by rw[htl,←HN.out];omega)) (Nat.le_trans hcl hm1) HKK.out.2.2.1
   have HSZ:=Lib.hid hSZ;have hRl:=HLN.out _ (List.mem_of_getElem? HC.out)
   simp only at hRl
   have hml:=mkV_len (catN qs (termsC cs0) i);have HAX:=Lib.hid (show(mkV (catN qs (termsC cs0) i)).length+r.length≤1000 by omega);have hrz:=rhsN_sz (qs:=qs) (cs:=cs0) HSC.out.1 (fun c hc=>(HSC.out.2 c hc).2) (i+1) (by rw[←HNQ.out];omega) (by rw[←HN.out];omega);have hmr:(i+1)*(ky+k+1)≤M*(ky+k+1):=Nat.mul_le_mul_right _ hiM;have HSZR:=Lib.hid (And.intro HRS.out (show szQ (rhsN qs cs0 (i+1))≤R by have:=HKK.out.2.2.2;omega));have HSQ:=Lib.hid (And.intro (szD_of (HSC.out.1 q (List.mem_of_getElem? HQ.out))) (szD_of (HSC.out.2 _ (List.mem_of_getElem? HC.out)).2))
   simp only at HSQ
   have hkm:k≤1000000:=by have:=HKK.out.1;omega
   have hkym:ky≤1000000:=by have:=HKK.out.2.1;omega
   clear hrz hmr hcl hcl0 hm1 hm0 htl hSZ hRl hml D S T HTO HSR0 HRS E0
   by_cases hc3:cs=3
   ·have hcb:(cs !=3)=false:=by rw[hc3];rfl
    have hgood:ruleQ s q (cs,r,x)=true:=ruleQ_iff.2 (.inr (.inl hc3))
    obtain⟨z,hz⟩:∃z,z=q.num.sign:=⟨_,rfl⟩
    have hz0:z≠0:=by
     rw[hz]
     rcases rat_two hqz with h |h
     ·rw[sgn_neg h];decide
     ·rw[sgn_pos h];decide
    have hzb:(z==0)=false:=by simpa using hz0
    rw[←hz];clear hz hc3
    have HRN:Hid (rulesN s qs cs0 (i+1)=true):=Lib.hid (by rw[rulesN_succ HQ.out HC.out,HRN0.out,hgood];rfl)
    clear hgood;go_wp2_with fail;refine wp_region_putg [⟨13,g9,SumT w5.heap.size K g9 s false none 0 0 none 0 0 (mkV (catN qs (termsC cs0) (i+1))),fun _ _ he h=>h.ext he,fun _ hne hg _ _ he h=>h.chg he hne hg⟩] [PP.val (.slice (some ⟨gq,offq,none⟩) n capq),PP.val (.int .i64 (i:Int)),PP.val (.pointer (some ⟨gq,offq+i*3,none⟩)),PP.val (.agg #[.bool yb,.slice y1 z1 p1,.slice y2 z2 p2]),PP.val (.slice (some ⟨g,off,none⟩) n cap),PP.val (.int .i64 (i:Int)),PP.val (.pointer (some ⟨g,off+i*5,none⟩)),PP.val (.pointer (some ⟨g,off+i*5+1,none⟩)),PP.val (.slice ay ny py),PP.val (.pointer (some ⟨g9,1,none⟩)),PP.val (.slice a n' p),PP.tO K (mkV (catN qs (termsC cs0) (i+1))),PP.val (.pointer (some ⟨g9,1,none⟩)),PP.any] [] [13,12,11,10,9,8,7,6,5,4,3,2,1,0]
     (by kernel_rfl) (by kernel_rfl) (fun f=>(by simp only[fillR,fillL,List.setIfInBounds_toArray,List.set_cons_succ,List.set_cons_zero,Nat.reduceAdd];rfl)) ?_ ?_ ?_ ?_ ?_
    ·intro x hx;simp only[List.mem_singleton]at hx;subst hx;show g9<w5.heap.size;omega
    ·intro x hx;simp only[List.mem_singleton]at hx;subst hx;rfl
    ·intro x hx y hy h;simp only[List.mem_singleton]at hx hy;subst hx hy;exact absurd rfl h
    ·refine⟨?_,?_,?_,?_,?_,?_,?_,?_,?_,?_,?_,?_,?_,?_,trivial⟩
     ·intro f wa hG hp hl;simp only[OpGoal];go_simp;exact⟨_,rfl,Ext.refl _,rfl⟩
     ·intro f wa hG hp hl;simp only[OpGoal];go_simp;exact⟨_,rfl,Ext.refl _,rfl⟩
     ·intro f wa hG hp hl
      have q80:f 0= .slice (some ⟨gq,offq,none⟩) n capq:=tellG hp 0 0 rfl rfl (fun h=>by cases h)
      have q81:f 1= .int .i64 (i:Int):=tellG hp 1 1 rfl rfl (fun h=>by cases h)
      simp only[OpGoal];go_simp;exact⟨_,rfl,Ext.refl _,rfl⟩
     ·intro f wa hG hp hl;have hE:Ext w5 wa:=hG
      have q82:f 2= .pointer (some ⟨gq,offq+i*3,none⟩):=tellG hp 0 2 rfl rfl (fun h=>by cases h)
      change OpGoal _ _ _ f wa Ext _;exact og_loadAt (P:=Tryz.prog) _ _ gq (offq+i*3) _ _ rfl rfl q82 (fun j v h=>HYC.out _ (X5.trans hE) j v h) Tryz.underlying34 rfl (by kernel_rfl) rfl
     ·intro f wa hG hp hl;simp only[OpGoal];go_simp;exact⟨_,rfl,Ext.refl _,rfl⟩
     ·intro f wa hG hp hl;simp only[OpGoal];go_simp;exact⟨_,rfl,Ext.refl _,rfl⟩
     ·intro f wa hG hp hl
      have q84:f 4= .slice (some ⟨g,off,none⟩) n cap:=tellG hp 0 4 rfl rfl (fun h=>by cases h)
      have q85:f 5= .int .i64 (i:Int):=tellG hp 1 5 rfl rfl (fun h=>by cases h)
      simp only[OpGoal];go_simp;exact⟨_,rfl,Ext.refl _,rfl⟩
     ·intro f wa hG hp hl
      have q86:f 6= .pointer (some ⟨g,off+i*5,none⟩):=tellG hp 0 6 rfl rfl (fun h=>by cases h)
      simp only[OpGoal];go_simp;exact⟨_,rfl,Ext.refl _,rfl⟩
     ·intro f wa hG hp hl;have hE:Ext w5 wa:=hG
      have q87:f 7= .pointer (some ⟨g,off+i*5+1,none⟩):=tellG hp 0 7 rfl rfl (fun h=>by cases h)
      have hcell:=(HCX.out _ (X5.trans hE)).2.1;simp only[OpGoal];go_simp;exact⟨_,rfl,Ext.refl _,rfl⟩
     ·intro f wa hG hp hl;simp only[OpGoal];go_simp;exact⟨_,rfl,Ext.refl _,rfl⟩
     ·intro f wa hG hp hl;have hE:Ext w5 wa:=hG
      have q89:f 9= .pointer (some ⟨g9,1,none⟩):=tellG hp 0 9 rfl rfl (fun h=>by cases h)
      have hcell:=(S5.ext hE).cell 1;simp only[OpGoal];go_simp;exact⟨_,rfl,Ext.refl _,rfl⟩
     ·intro f wa hG hp hl;have hE:Ext w5 wa:=hG;have hS:=hE.size
      have q83:f 3= .agg #[.bool yb,.slice y1 z1 p1,.slice y2 z2 p2]:=tellG hp 0 3 rfl rfl (fun h=>by cases h)
      have q88:f 8= .slice ay ny py:=tellG hp 1 8 rfl rfl (fun h=>by cases h)
      have q90:f 10= .slice a n' p:=tellG hp 2 10 rfl rfl (fun h=>by cases h)
      change OpGoal _ _ _ f wa Ext _;refine oC #[f 3,f 8,f 10] Tryz.func85 rfl rfl ?_;rw[q83,q88,q90];refine(axpy5_calls K (K+K) _ _ _ q r (mkV (catN qs (termsC cs0) i)) _ ((HYR.out.ext (X5.trans hE)).mono HKK.out.2.1) ((HTL.out.ext (X5.trans hE)).le HKK.out.1) ((HSV.out.ext hE).tl (by omega)) (by omega) (by omega) HAX.out).mono ?_;rintro e w' ⟨v',rfl,h1,h2⟩;rw[HMK.out]at h1;exact⟨v',rfl,h2,(h1.to HSZ.out).mono hS⟩
     ·intro f wa hG hp hl;simp only[OpGoal];go_simp;exact⟨_,rfl,Ext.refl _,rfl⟩
     ·intro f wa hG hp hl;have hE:Ext w5 wa:=hG;have hS:=hE.size
      have q92:f 12= .pointer (some ⟨g9,1,none⟩):=tellG hp 0 12 rfl rfl (fun h=>by cases h)
      have q91:=tellG hp 1 11 rfl rfl (fun _=>hE);intro hg0;change OpGoal _ _ _ f wa (Chg _) _;obtain⟨ad',cap',hv⟩:=TO.val q91;have hto:=q91;rw[hv]at hto;exact og_storeS (P:=Tryz.prog) g9 1 36 _ [.int .i64 s,.slice a n' p,.bool false,.slice none 0 0,.slice none 0 0] ad' _ cap' _ _ rfl rfl q92 hv (by kernel_rfl) (show Bx 36 wa _ _ from hg0.trans S5) (show 1<5 by decide) (fun w' hc hb u=>⟨ad',_,cap',hb,hto.chg hc (by omega)⟩)
    ·intro f w6 hG hp;have hz0:=endGS hp 13 (by decide);clear hp;have hC:Chg g9 w5 w6:=ChgS.one hG;obtain⟨a6,n6,p6,S6,ht6⟩:=hz0;have X6:=X5.step hC (by omega);have HT6:=Lib.hid (ht6.mono (show w.heap.size≤_ by omega));have D6:=D5.chg hC (by omega);have T6:=T5.chg hC (by omega);have P6:=P5.chg hC (by omega);have HR6:=Lib.hid (HSR.out.chgN hC S5 S6 (by decide) (by decide));have HQ6:=Lib.hid (HQD.out.chgN hC S5 S6 (by decide) (by decide));have hs6:=hC.size;clear ht6 hC hG D5 T5 P5 S5;go_wp2_with fail;refine wp_region_putg [⟨10,g10,SumQ w6.heap.size g10 (rhsN qs cs0 (i+1)),fun _ _ he h=>h.ext he,fun _ hne hg _ _ he h=>h.chg he hne hg⟩] [PP.val (.agg #[.bool tb,.slice t1 u1 v1,.slice t2 u2 v2]),PP.val (.agg #[.bool qb,.slice qa1 qn1 qc1,.slice qa2 qn2 qc2]),PP.val (.slice (some ⟨g,off,none⟩) n cap),PP.val (.int .i64 (i:Int)),PP.val (.pointer (some ⟨g,off+i*5,none⟩)),PP.val (.pointer (some ⟨g,off+i*5+2,none⟩)),PP.val (.agg #[.bool bby,.slice a1y n1y c1y,.slice a2y n2y c2y]),PP.frQd x,PP.frQdS (q*x) (5*ky+5*k),PP.frQd (rhsN qs cs0 (i+1)),PP.any] [] [10,9,8,7,6,5,4,3,2,1,0]
      (by kernel_rfl) (by kernel_rfl) (fun f=>(by simp only[fillR,fillL,List.setIfInBounds_toArray,List.set_cons_succ,List.set_cons_zero,Nat.reduceAdd];rfl)) ?_ ?_ ?_ ?_ ?_
     ·intro x hx;simp only[List.mem_singleton]at hx;subst hx;show g10<w6.heap.size;omega
     ·intro x hx;simp only[List.mem_singleton]at hx;subst hx;rfl
     ·intro x hx y hy h;simp only[List.mem_singleton]at hx hy;subst hx hy;exact absurd rfl h
     ·refine⟨?_,?_,?_,?_,?_,?_,?_,?_,?_,?_,?_,trivial⟩
      ·intro f wa hG hp hl;have hE:Ext w6 wa:=hG;change OpGoal _ _ _ f wa Ext _;exact og_load (P:=Tryz.prog) _ _ g10 _ _ _ rfl rfl rfl (T6.ext hE) Tryz.underlying81 rfl (by kernel_rfl) rfl
      ·intro f wa hG hp hl;have hE:Ext w6 wa:=hG;change OpGoal _ _ _ f wa Ext _;exact og_load (P:=Tryz.prog) _ _ w3.heap.size _ _ _ rfl rfl rfl (P6.ext hE) Tryz.underlying81 rfl (by kernel_rfl) rfl
      ·intro f wa hG hp hl;simp only[OpGoal];go_simp;exact⟨_,rfl,Ext.refl _,rfl⟩
      ·intro f wa hG hp hl;simp only[OpGoal];go_simp;exact⟨_,rfl,Ext.refl _,rfl⟩
      ·intro f wa hG hp hl
       have q95:f 2= .slice (some ⟨g,off,none⟩) n cap:=tellG hp 0 2 rfl rfl (fun h=>by cases h)
       have q96:f 3= .int .i64 (i:Int):=tellG hp 1 3 rfl rfl (fun h=>by cases h)
       simp only[OpGoal];go_simp;exact⟨_,rfl,Ext.refl _,rfl⟩
      ·intro f wa hG hp hl
       have q97:f 4= .pointer (some ⟨g,off+i*5,none⟩):=tellG hp 0 4 rfl rfl (fun h=>by cases h)
       simp only[OpGoal];go_simp;exact⟨_,rfl,Ext.refl _,rfl⟩
      ·intro f wa hG hp hl;have hE:Ext w6 wa:=hG
       have q98:f 5= .pointer (some ⟨g,off+i*5+2,none⟩):=tellG hp 0 5 rfl rfl (fun h=>by cases h)
       change OpGoal _ _ _ f wa Ext _;have hcs:=HCX.out _ (X6.trans hE);exact og_loadAt (P:=Tryz.prog) _ _ g (off+i*5+2) _ _ rfl rfl q98 (rhs_cells hcs.2.2.1 hcs.2.2.2.1 hcs.2.2.2.2) Tryz.underlying34 rfl (by kernel_rfl) rfl
      ·intro f wa hG hp hl;have hE:Ext w6 wa:=hG;have hS:=hE.size
       have q99:f 6= .agg #[.bool bby,.slice a1y n1y c1y,.slice a2y n2y c2y]:=tellG hp 0 6 rfl rfl (fun h=>by cases h)
       change OpGoal _ _ _ f wa Ext _;refine oC #[f 6] Tryz.func55 rfl rfl ?_;rw[q99];refine(rqofR_calls _ x k _ (HRX.out.ext (X6.trans hE)) (by omega)).mono ?_;rintro e w' ⟨v',rfl,h1,h2⟩;exact⟨v',rfl,h2,h1.mono hS⟩
      ·intro f wa hG hp hl;have hE:Ext w6 wa:=hG;have hS:=hE.size
       have q94:f 1= .agg #[.bool qb,.slice qa1 qn1 qc1,.slice qa2 qn2 qc2]:=tellG hp 0 1 rfl rfl (fun h=>by cases h)
       have q100:=tellG hp 1 7 rfl rfl (fun _=>hE);change OpGoal _ _ _ f wa Ext _;refine oC #[f 1,f 7] Tryz.func63 rfl rfl ?_;rw[q94];refine(rqmul3_calls _ _ q x (5*ky) (5*k) _ ((HQ6.out.ext hE).cq) q100.cq HSQ.out.1 HSQ.out.2 (by omega)).mono ?_;rintro e w' ⟨v',rfl,h1,h3,h2⟩;exact⟨v',rfl,h2,h1.mono hS,h3⟩
      ·intro f wa hG hp hl;have hE:Ext w6 wa:=hG;have hS:=hE.size
       have q93:f 0= .agg #[.bool tb,.slice t1 u1 v1,.slice t2 u2 v2]:=tellG hp 0 0 rfl rfl (fun h=>by cases h)
       have q101:=tellG hp 1 8 rfl rfl (fun _=>hE);change OpGoal _ _ _ f wa Ext _;refine oC #[f 0,f 8] Tryz.func61 rfl rfl ?_;rw[q93];refine(rqadd3_calls _ _ (rhsN qs cs0 i) (q*x) (5*R) (5*ky+5*k) _ ((HR6.out.ext hE).cq) q101.1.cq (szD_of HSZR.out.1) q101.2 (by omega)).mono ?_;rintro e w' ⟨v',rfl,h1,h3,h2⟩;rw[←HRH.out]at h1;exact⟨v',rfl,h2,h1.mono hS⟩
      ·intro f wa hG hp hl;have hE:Ext w6 wa:=hG;have hS:=hE.size;have q102:=tellG hp 0 9 rfl rfl (fun _=>hE);intro hg0;change OpGoal _ _ _ f wa (Chg _) _;obtain⟨b',ad1,m1,e1,ad2,m2,e2,hv,hfq⟩:=FrQd.opn q102;exact og_storeAt (P:=Tryz.prog) g10 0 81 _ [.bool tb,.slice t1 u1 v1,.slice t2 u2 v2] #[.bool b',.slice ad1 m1 e1,.slice ad2 m2 e2] _ _ rfl rfl rfl hv (by kernel_rfl) (show Bx 81 wa _ _ from hg0.trans T6) (show 0+3≤3 by decide) (all3 rfl rfl rfl) (fun w' hc hb u=>⟨b',ad1,m1,e1,ad2,m2,e2,hb,hfq.chg hc (by omega)⟩)
     ·intro f w7 hG hp;have hz0:=endGS hp 10 (by decide);clear hp;have hC:Chg g10 w6 w7:=ChgS.one hG;obtain⟨b',ad1,m1,e1,ad2,m2,e2,T7,hr7⟩:=hz0;have X7:=X6.step hC (by omega);have HJ:Hid (CdJ w K R g6 g9 g10 s qs cs0 (i+1) w7):=Lib.hid ⟨X7,HG.out,D6.chg hC (by omega),⟨a6,n6,p6,S6.chg hC (by omega),TO.chgB HT6.out hC T6 (by decide) (by decide)⟩,⟨b',ad1,m1,e1,ad2,m2,e2,T7,hr7.mono (by omega)⟩,HSZR.out.2⟩;clear hC hG S6 T6 P6 D6 T7 hr7 HR6 HT6 X6 X5 X7;go_wp2;go_roundw
      case rel=>exact ⟨i+1,by omega,congrArg (Value.int .i64) (by omega),HRN,HJ⟩
      case measure=>simp [intOf];omega
   have hcb:(cs !=3)=true:=by rw[bne_iff_ne];exact hc3
   by_cases hs3:s=3
   ·have hsb:(s==3)=true:=by simpa using hs3
    have hbad:ruleQ s q (cs,r,x)=false:=by
     cases hr:ruleQ s q (cs,r,x)
     ·rfl
     ·rcases ruleQ_iff.1 hr with h |h |h
      ·exact absurd h hqz
      ·exact absurd h hc3
      ·exact absurd hs3 h.1
    obtain⟨z,hz⟩:∃z,z=q.num.sign:=⟨_,rfl⟩
    have hz0:z≠0:=by
     rw[hz]
     rcases rat_two hqz with h |h
     ·rw[sgn_neg h];decide
     ·rw[sgn_pos h];decide
    have hzb:(z==0)=false:=by simpa using hz0
    rw[←hz];clear hz hc3 hs3;have HE:=Lib.hid (show combE cs0 qs s=241 by rw[combE_r HS.out HNN.out HSN.out,rulesN_bad HQ.out HC.out (by rw[←HN.out];exact hin) hbad];rfl);have XB:=Lib.hid X5;clear hbad;have hq:=D5;have hq0:=hq.cell 0;have hqf0:=hq.free 0;have hq1:=hq.cell 1;have hqf1:=hq.free 1;have hq2:=hq.cell 2;have hqf2:=hq.free 2;have hq3:=hq.cell 3;have hqf3:=hq.free 3;have hq4:=hq.cell 4;have hqf4:=hq.free 4;go_wp2;refine ret_box2 6 7 36 g6 36 _ _ _ (by kernel_rfl) rfl rfl (((((hq.set 0 _).set 1 _).set 2 _).set 3 _).set 4 _) Tryz.underlying36 rfl (by kernel_rfl) rfl ?_;exact⟨zeroC,by rw[HE.out];rfl,XB.out.step (((((Chg.setCell _ g6 0 _).trans (Chg.setCell _ g6 1 _)).trans (Chg.setCell _ g6 2 _)).trans (Chg.setCell _ g6 3 _)).trans (Chg.setCell _ g6 4 _)) hg6w,fun h=>(by rw[HE.out]at h;cases h),fun _=>rfl⟩
   have hsb:(s==3)=false:=by simpa using hs3
   rcases rat_two hqz with hneg |hpos
   ·rw[sgn_neg hneg]
    by_cases hcs:cs=s
    ·have hce:(cs==s)=true:=by simpa using hcs
     have hbad:ruleQ s q (cs,r,x)=false:=by
      cases hr:ruleQ s q (cs,r,x)
      ·rfl
      ·rcases ruleQ_iff.1 hr with h |h |⟨-,h |h⟩
       ·exact absurd h hqz
       ·exact absurd h hc3
       ·exact absurd h.2 (by grind)
       ·exact absurd hcs h.1
     clear hc3 hs3 hneg hcs;have HE:=Lib.hid (show combE cs0 qs s=241 by rw[combE_r HS.out HNN.out HSN.out,rulesN_bad HQ.out HC.out (by rw[←HN.out];exact hin) hbad];rfl);have XB:=Lib.hid X5;clear hbad;have hq:=D5;have hq0:=hq.cell 0;have hqf0:=hq.free 0;have hq1:=hq.cell 1;have hqf1:=hq.free 1;have hq2:=hq.cell 2;have hqf2:=hq.free 2;have hq3:=hq.cell 3;have hqf3:=hq.free 3;have hq4:=hq.cell 4;have hqf4:=hq.free 4;go_wp2;refine ret_box2 6 7 36 g6 36 _ _ _ (by kernel_rfl) rfl rfl (((((hq.set 0 _).set 1 _).set 2 _).set 3 _).set 4 _) Tryz.underlying36 rfl (by kernel_rfl) rfl ?_;exact⟨zeroC,by rw[HE.out];rfl,XB.out.step (((((Chg.setCell _ g6 0 _).trans (Chg.setCell _ g6 1 _)).trans (Chg.setCell _ g6 2 _)).trans (Chg.setCell _ g6 3 _)).trans (Chg.setCell _ g6 4 _)) hg6w,fun h=>(by rw[HE.out]at h;cases h),fun _=>rfl⟩
    ·have hce:(cs==s)=false:=by simpa using hcs
     have hgood:ruleQ s q (cs,r,x)=true:=ruleQ_iff.2 (.inr (.inr ⟨hs3,.inr ⟨hcs,hneg⟩⟩))
     clear hc3 hs3 hneg hcs
     have HRN:Hid (rulesN s qs cs0 (i+1)=true):=Lib.hid (by rw[rulesN_succ HQ.out HC.out,HRN0.out,hgood];rfl)
     clear hgood;go_wp2_with fail;refine wp_region_putg [⟨13,g9,SumT w5.heap.size K g9 s false none 0 0 none 0 0 (mkV (catN qs (termsC cs0) (i+1))),fun _ _ he h=>h.ext he,fun _ hne hg _ _ he h=>h.chg he hne hg⟩] [PP.val (.slice (some ⟨gq,offq,none⟩) n capq),PP.val (.int .i64 (i:Int)),PP.val (.pointer (some ⟨gq,offq+i*3,none⟩)),PP.val (.agg #[.bool yb,.slice y1 z1 p1,.slice y2 z2 p2]),PP.val (.slice (some ⟨g,off,none⟩) n cap),PP.val (.int .i64 (i:Int)),PP.val (.pointer (some ⟨g,off+i*5,none⟩)),PP.val (.pointer (some ⟨g,off+i*5+1,none⟩)),PP.val (.slice ay ny py),PP.val (.pointer (some ⟨g9,1,none⟩)),PP.val (.slice a n' p),PP.tO K (mkV (catN qs (termsC cs0) (i+1))),PP.val (.pointer (some ⟨g9,1,none⟩)),PP.any] [] [13,12,11,10,9,8,7,6,5,4,3,2,1,0]
      (by kernel_rfl) (by kernel_rfl) (fun f=>(by simp only[fillR,fillL,List.setIfInBounds_toArray,List.set_cons_succ,List.set_cons_zero,Nat.reduceAdd];rfl)) ?_ ?_ ?_ ?_ ?_
     ·intro x hx;simp only[List.mem_singleton]at hx;subst hx;show g9<w5.heap.size;omega
     ·intro x hx;simp only[List.mem_singleton]at hx;subst hx;rfl
     ·intro x hx y hy h;simp only[List.mem_singleton]at hx hy;subst hx hy;exact absurd rfl h
     ·refine⟨?_,?_,?_,?_,?_,?_,?_,?_,?_,?_,?_,?_,?_,?_,trivial⟩
      ·intro f wa hG hp hl;simp only[OpGoal];go_simp;exact⟨_,rfl,Ext.refl _,rfl⟩
      ·intro f wa hG hp hl;simp only[OpGoal];go_simp;exact⟨_,rfl,Ext.refl _,rfl⟩
      ·intro f wa hG hp hl
       have q80:f 0= .slice (some ⟨gq,offq,none⟩) n capq:=tellG hp 0 0 rfl rfl (fun h=>by cases h)
       have q81:f 1= .int .i64 (i:Int):=tellG hp 1 1 rfl rfl (fun h=>by cases h)
       simp only[OpGoal];go_simp;exact⟨_,rfl,Ext.refl _,rfl⟩
      ·intro f wa hG hp hl;have hE:Ext w5 wa:=hG
       have q82:f 2= .pointer (some ⟨gq,offq+i*3,none⟩):=tellG hp 0 2 rfl rfl (fun h=>by cases h)
       change OpGoal _ _ _ f wa Ext _;exact og_loadAt (P:=Tryz.prog) _ _ gq (offq+i*3) _ _ rfl rfl q82 (fun j v h=>HYC.out _ (X5.trans hE) j v h) Tryz.underlying34 rfl (by kernel_rfl) rfl
      ·intro f wa hG hp hl;simp only[OpGoal];go_simp;exact⟨_,rfl,Ext.refl _,rfl⟩
      ·intro f wa hG hp hl;simp only[OpGoal];go_simp;exact⟨_,rfl,Ext.refl _,rfl⟩
      ·intro f wa hG hp hl
       have q84:f 4= .slice (some ⟨g,off,none⟩) n cap:=tellG hp 0 4 rfl rfl (fun h=>by cases h)
       have q85:f 5= .int .i64 (i:Int):=tellG hp 1 5 rfl rfl (fun h=>by cases h)
       simp only[OpGoal];go_simp;exact⟨_,rfl,Ext.refl _,rfl⟩
      ·intro f wa hG hp hl
       have q86:f 6= .pointer (some ⟨g,off+i*5,none⟩):=tellG hp 0 6 rfl rfl (fun h=>by cases h)
       simp only[OpGoal];go_simp;exact⟨_,rfl,Ext.refl _,rfl⟩
      ·intro f wa hG hp hl;have hE:Ext w5 wa:=hG
       have q87:f 7= .pointer (some ⟨g,off+i*5+1,none⟩):=tellG hp 0 7 rfl rfl (fun h=>by cases h)
       have hcell:=(HCX.out _ (X5.trans hE)).2.1;simp only[OpGoal];go_simp;exact⟨_,rfl,Ext.refl _,rfl⟩
      ·intro f wa hG hp hl;simp only[OpGoal];go_simp;exact⟨_,rfl,Ext.refl _,rfl⟩
      ·intro f wa hG hp hl;have hE:Ext w5 wa:=hG
       have q89:f 9= .pointer (some ⟨g9,1,none⟩):=tellG hp 0 9 rfl rfl (fun h=>by cases h)
       have hcell:=(S5.ext hE).cell 1;simp only[OpGoal];go_simp;exact⟨_,rfl,Ext.refl _,rfl⟩
      ·intro f wa hG hp hl;have hE:Ext w5 wa:=hG;have hS:=hE.size
       have q83:f 3= .agg #[.bool yb,.slice y1 z1 p1,.slice y2 z2 p2]:=tellG hp 0 3 rfl rfl (fun h=>by cases h)
       have q88:f 8= .slice ay ny py:=tellG hp 1 8 rfl rfl (fun h=>by cases h)
       have q90:f 10= .slice a n' p:=tellG hp 2 10 rfl rfl (fun h=>by cases h)
       change OpGoal _ _ _ f wa Ext _;refine oC #[f 3,f 8,f 10] Tryz.func85 rfl rfl ?_;rw[q83,q88,q90];refine(axpy5_calls K (K+K) _ _ _ q r (mkV (catN qs (termsC cs0) i)) _ ((HYR.out.ext (X5.trans hE)).mono HKK.out.2.1) ((HTL.out.ext (X5.trans hE)).le HKK.out.1) ((HSV.out.ext hE).tl (by omega)) (by omega) (by omega) HAX.out).mono ?_;rintro e w' ⟨v',rfl,h1,h2⟩;rw[HMK.out]at h1;exact⟨v',rfl,h2,(h1.to HSZ.out).mono hS⟩
      ·intro f wa hG hp hl;simp only[OpGoal];go_simp;exact⟨_,rfl,Ext.refl _,rfl⟩
      ·intro f wa hG hp hl;have hE:Ext w5 wa:=hG;have hS:=hE.size
       have q92:f 12= .pointer (some ⟨g9,1,none⟩):=tellG hp 0 12 rfl rfl (fun h=>by cases h)
       have q91:=tellG hp 1 11 rfl rfl (fun _=>hE);intro hg0;change OpGoal _ _ _ f wa (Chg _) _;obtain⟨ad',cap',hv⟩:=TO.val q91;have hto:=q91;rw[hv]at hto;exact og_storeS (P:=Tryz.prog) g9 1 36 _ [.int .i64 s,.slice a n' p,.bool false,.slice none 0 0,.slice none 0 0] ad' _ cap' _ _ rfl rfl q92 hv (by kernel_rfl) (show Bx 36 wa _ _ from hg0.trans S5) (show 1<5 by decide) (fun w' hc hb u=>⟨ad',_,cap',hb,hto.chg hc (by omega)⟩)
     ·intro f w6 hG hp;have hz0:=endGS hp 13 (by decide);clear hp;have hC:Chg g9 w5 w6:=ChgS.one hG;obtain⟨a6,n6,p6,S6,ht6⟩:=hz0;have X6:=X5.step hC (by omega);have HT6:=Lib.hid (ht6.mono (show w.heap.size≤_ by omega));have D6:=D5.chg hC (by omega);have T6:=T5.chg hC (by omega);have P6:=P5.chg hC (by omega);have HR6:=Lib.hid (HSR.out.chgN hC S5 S6 (by decide) (by decide));have HQ6:=Lib.hid (HQD.out.chgN hC S5 S6 (by decide) (by decide));have hs6:=hC.size;clear ht6 hC hG D5 T5 P5 S5;go_wp2_with fail;refine wp_region_putg [⟨10,g10,SumQ w6.heap.size g10 (rhsN qs cs0 (i+1)),fun _ _ he h=>h.ext he,fun _ hne hg _ _ he h=>h.chg he hne hg⟩] [PP.val (.agg #[.bool tb,.slice t1 u1 v1,.slice t2 u2 v2]),PP.val (.agg #[.bool qb,.slice qa1 qn1 qc1,.slice qa2 qn2 qc2]),PP.val (.slice (some ⟨g,off,none⟩) n cap),PP.val (.int .i64 (i:Int)),PP.val (.pointer (some ⟨g,off+i*5,none⟩)),PP.val (.pointer (some ⟨g,off+i*5+2,none⟩)),PP.val (.agg #[.bool bby,.slice a1y n1y c1y,.slice a2y n2y c2y]),PP.frQd x,PP.frQdS (q*x) (5*ky+5*k),PP.frQd (rhsN qs cs0 (i+1)),PP.any] [] [10,9,8,7,6,5,4,3,2,1,0]
       (by kernel_rfl) (by kernel_rfl) (fun f=>(by simp only[fillR,fillL,List.setIfInBounds_toArray,List.set_cons_succ,List.set_cons_zero,Nat.reduceAdd];rfl)) ?_ ?_ ?_ ?_ ?_
      ·intro x hx;simp only[List.mem_singleton]at hx;subst hx;show g10<w6.heap.size;omega
      ·intro x hx;simp only[List.mem_singleton]at hx;subst hx;rfl
      ·intro x hx y hy h;simp only[List.mem_singleton]at hx hy;subst hx hy;exact absurd rfl h
      ·refine⟨?_,?_,?_,?_,?_,?_,?_,?_,?_,?_,?_,trivial⟩
       ·intro f wa hG hp hl;have hE:Ext w6 wa:=hG;change OpGoal _ _ _ f wa Ext _;exact og_load (P:=Tryz.prog) _ _ g10 _ _ _ rfl rfl rfl (T6.ext hE) Tryz.underlying81 rfl (by kernel_rfl) rfl
       ·intro f wa hG hp hl;have hE:Ext w6 wa:=hG;change OpGoal _ _ _ f wa Ext _;exact og_load (P:=Tryz.prog) _ _ w3.heap.size _ _ _ rfl rfl rfl (P6.ext hE) Tryz.underlying81 rfl (by kernel_rfl) rfl
       ·intro f wa hG hp hl;simp only[OpGoal];go_simp;exact⟨_,rfl,Ext.refl _,rfl⟩
       ·intro f wa hG hp hl;simp only[OpGoal];go_simp;exact⟨_,rfl,Ext.refl _,rfl⟩
       ·intro f wa hG hp hl
        have q95:f 2= .slice (some ⟨g,off,none⟩) n cap:=tellG hp 0 2 rfl rfl (fun h=>by cases h)
        have q96:f 3= .int .i64 (i:Int):=tellG hp 1 3 rfl rfl (fun h=>by cases h)
        simp only[OpGoal];go_simp;exact⟨_,rfl,Ext.refl _,rfl⟩
       ·intro f wa hG hp hl
        have q97:f 4= .pointer (some ⟨g,off+i*5,none⟩):=tellG hp 0 4 rfl rfl (fun h=>by cases h)
        simp only[OpGoal];go_simp;exact⟨_,rfl,Ext.refl _,rfl⟩
       ·intro f wa hG hp hl;have hE:Ext w6 wa:=hG
        have q98:f 5= .pointer (some ⟨g,off+i*5+2,none⟩):=tellG hp 0 5 rfl rfl (fun h=>by cases h)
        change OpGoal _ _ _ f wa Ext _;have hcs:=HCX.out _ (X6.trans hE);exact og_loadAt (P:=Tryz.prog) _ _ g (off+i*5+2) _ _ rfl rfl q98 (rhs_cells hcs.2.2.1 hcs.2.2.2.1 hcs.2.2.2.2) Tryz.underlying34 rfl (by kernel_rfl) rfl
       ·intro f wa hG hp hl;have hE:Ext w6 wa:=hG;have hS:=hE.size
        have q99:f 6= .agg #[.bool bby,.slice a1y n1y c1y,.slice a2y n2y c2y]:=tellG hp 0 6 rfl rfl (fun h=>by cases h)
        change OpGoal _ _ _ f wa Ext _;refine oC #[f 6] Tryz.func55 rfl rfl ?_;rw[q99];refine(rqofR_calls _ x k _ (HRX.out.ext (X6.trans hE)) (by omega)).mono ?_;rintro e w' ⟨v',rfl,h1,h2⟩;exact⟨v',rfl,h2,h1.mono hS⟩
       ·intro f wa hG hp hl;have hE:Ext w6 wa:=hG;have hS:=hE.size
        have q94:f 1= .agg #[.bool qb,.slice qa1 qn1 qc1,.slice qa2 qn2 qc2]:=tellG hp 0 1 rfl rfl (fun h=>by cases h)
        have q100:=tellG hp 1 7 rfl rfl (fun _=>hE);change OpGoal _ _ _ f wa Ext _;refine oC #[f 1,f 7] Tryz.func63 rfl rfl ?_;rw[q94];refine(rqmul3_calls _ _ q x (5*ky) (5*k) _ ((HQ6.out.ext hE).cq) q100.cq HSQ.out.1 HSQ.out.2 (by omega)).mono ?_;rintro e w' ⟨v',rfl,h1,h3,h2⟩;exact⟨v',rfl,h2,h1.mono hS,h3⟩
       ·intro f wa hG hp hl;have hE:Ext w6 wa:=hG;have hS:=hE.size
        have q93:f 0= .agg #[.bool tb,.slice t1 u1 v1,.slice t2 u2 v2]:=tellG hp 0 0 rfl rfl (fun h=>by cases h)
        have q101:=tellG hp 1 8 rfl rfl (fun _=>hE);change OpGoal _ _ _ f wa Ext _;refine oC #[f 0,f 8] Tryz.func61 rfl rfl ?_;rw[q93];refine(rqadd3_calls _ _ (rhsN qs cs0 i) (q*x) (5*R) (5*ky+5*k) _ ((HR6.out.ext hE).cq) q101.1.cq (szD_of HSZR.out.1) q101.2 (by omega)).mono ?_;rintro e w' ⟨v',rfl,h1,h3,h2⟩;rw[←HRH.out]at h1;exact⟨v',rfl,h2,h1.mono hS⟩
       ·intro f wa hG hp hl;have hE:Ext w6 wa:=hG;have hS:=hE.size;have q102:=tellG hp 0 9 rfl rfl (fun _=>hE);intro hg0;change OpGoal _ _ _ f wa (Chg _) _;obtain⟨b',ad1,m1,e1,ad2,m2,e2,hv,hfq⟩:=FrQd.opn q102;exact og_storeAt (P:=Tryz.prog) g10 0 81 _ [.bool tb,.slice t1 u1 v1,.slice t2 u2 v2] #[.bool b',.slice ad1 m1 e1,.slice ad2 m2 e2] _ _ rfl rfl rfl hv (by kernel_rfl) (show Bx 81 wa _ _ from hg0.trans T6) (show 0+3≤3 by decide) (all3 rfl rfl rfl) (fun w' hc hb u=>⟨b',ad1,m1,e1,ad2,m2,e2,hb,hfq.chg hc (by omega)⟩)
      ·intro f w7 hG hp;have hz0:=endGS hp 10 (by decide);clear hp;have hC:Chg g10 w6 w7:=ChgS.one hG;obtain⟨b',ad1,m1,e1,ad2,m2,e2,T7,hr7⟩:=hz0;have X7:=X6.step hC (by omega);have HJ:Hid (CdJ w K R g6 g9 g10 s qs cs0 (i+1) w7):=Lib.hid ⟨X7,HG.out,D6.chg hC (by omega),⟨a6,n6,p6,S6.chg hC (by omega),TO.chgB HT6.out hC T6 (by decide) (by decide)⟩,⟨b',ad1,m1,e1,ad2,m2,e2,T7,hr7.mono (by omega)⟩,HSZR.out.2⟩;clear hC hG S6 T6 P6 D6 T7 hr7 HR6 HT6 X6 X5 X7;go_wp2;go_roundw
       case rel=>exact ⟨i+1,by omega,congrArg (Value.int .i64) (by omega),HRN,HJ⟩
       case measure=>simp [intOf];omega
   ·rw[sgn_pos hpos]
    by_cases hcs:cs=s
    ·have hce:(cs==s)=true:=by simpa using hcs
     have hgood:ruleQ s q (cs,r,x)=true:=ruleQ_iff.2 (.inr (.inr ⟨hs3,.inl ⟨hcs,hpos⟩⟩))
     clear hc3 hs3 hpos hcs
     have HRN:Hid (rulesN s qs cs0 (i+1)=true):=Lib.hid (by rw[rulesN_succ HQ.out HC.out,HRN0.out,hgood];rfl)
     clear hgood;go_wp2_with fail;refine wp_region_putg [⟨13,g9,SumT w5.heap.size K g9 s false none 0 0 none 0 0 (mkV (catN qs (termsC cs0) (i+1))),fun _ _ he h=>h.ext he,fun _ hne hg _ _ he h=>h.chg he hne hg⟩] [PP.val (.slice (some ⟨gq,offq,none⟩) n capq),PP.val (.int .i64 (i:Int)),PP.val (.pointer (some ⟨gq,offq+i*3,none⟩)),PP.val (.agg #[.bool yb,.slice y1 z1 p1,.slice y2 z2 p2]),PP.val (.slice (some ⟨g,off,none⟩) n cap),PP.val (.int .i64 (i:Int)),PP.val (.pointer (some ⟨g,off+i*5,none⟩)),PP.val (.pointer (some ⟨g,off+i*5+1,none⟩)),PP.val (.slice ay ny py),PP.val (.pointer (some ⟨g9,1,none⟩)),PP.val (.slice a n' p),PP.tO K (mkV (catN qs (termsC cs0) (i+1))),PP.val (.pointer (some ⟨g9,1,none⟩)),PP.any] [] [13,12,11,10,9,8,7,6,5,4,3,2,1,0]
      (by kernel_rfl) (by kernel_rfl) (fun f=>(by simp only[fillR,fillL,List.setIfInBounds_toArray,List.set_cons_succ,List.set_cons_zero,Nat.reduceAdd];rfl)) ?_ ?_ ?_ ?_ ?_
     ·intro x hx;simp only[List.mem_singleton]at hx;subst hx;show g9<w5.heap.size;omega
     ·intro x hx;simp only[List.mem_singleton]at hx;subst hx;rfl
     ·intro x hx y hy h;simp only[List.mem_singleton]at hx hy;subst hx hy;exact absurd rfl h
     ·refine⟨?_,?_,?_,?_,?_,?_,?_,?_,?_,?_,?_,?_,?_,?_,trivial⟩
      ·intro f wa hG hp hl;simp only[OpGoal];go_simp;exact⟨_,rfl,Ext.refl _,rfl⟩
      ·intro f wa hG hp hl;simp only[OpGoal];go_simp;exact⟨_,rfl,Ext.refl _,rfl⟩
      ·intro f wa hG hp hl
       have q80:f 0= .slice (some ⟨gq,offq,none⟩) n capq:=tellG hp 0 0 rfl rfl (fun h=>by cases h)
       have q81:f 1= .int .i64 (i:Int):=tellG hp 1 1 rfl rfl (fun h=>by cases h)
       simp only[OpGoal];go_simp;exact⟨_,rfl,Ext.refl _,rfl⟩
      ·intro f wa hG hp hl;have hE:Ext w5 wa:=hG
       have q82:f 2= .pointer (some ⟨gq,offq+i*3,none⟩):=tellG hp 0 2 rfl rfl (fun h=>by cases h)
       change OpGoal _ _ _ f wa Ext _;exact og_loadAt (P:=Tryz.prog) _ _ gq (offq+i*3) _ _ rfl rfl q82 (fun j v h=>HYC.out _ (X5.trans hE) j v h) Tryz.underlying34 rfl (by kernel_rfl) rfl
      ·intro f wa hG hp hl;simp only[OpGoal];go_simp;exact⟨_,rfl,Ext.refl _,rfl⟩
      ·intro f wa hG hp hl;simp only[OpGoal];go_simp;exact⟨_,rfl,Ext.refl _,rfl⟩
      ·intro f wa hG hp hl
       have q84:f 4= .slice (some ⟨g,off,none⟩) n cap:=tellG hp 0 4 rfl rfl (fun h=>by cases h)
       have q85:f 5= .int .i64 (i:Int):=tellG hp 1 5 rfl rfl (fun h=>by cases h)
       simp only[OpGoal];go_simp;exact⟨_,rfl,Ext.refl _,rfl⟩
      ·intro f wa hG hp hl
       have q86:f 6= .pointer (some ⟨g,off+i*5,none⟩):=tellG hp 0 6 rfl rfl (fun h=>by cases h)
       simp only[OpGoal];go_simp;exact⟨_,rfl,Ext.refl _,rfl⟩
      ·intro f wa hG hp hl;have hE:Ext w5 wa:=hG
       have q87:f 7= .pointer (some ⟨g,off+i*5+1,none⟩):=tellG hp 0 7 rfl rfl (fun h=>by cases h)
       have hcell:=(HCX.out _ (X5.trans hE)).2.1;simp only[OpGoal];go_simp;exact⟨_,rfl,Ext.refl _,rfl⟩
      ·intro f wa hG hp hl;simp only[OpGoal];go_simp;exact⟨_,rfl,Ext.refl _,rfl⟩
      ·intro f wa hG hp hl;have hE:Ext w5 wa:=hG
       have q89:f 9= .pointer (some ⟨g9,1,none⟩):=tellG hp 0 9 rfl rfl (fun h=>by cases h)
       have hcell:=(S5.ext hE).cell 1;simp only[OpGoal];go_simp;exact⟨_,rfl,Ext.refl _,rfl⟩
      ·intro f wa hG hp hl;have hE:Ext w5 wa:=hG;have hS:=hE.size
       have q83:f 3= .agg #[.bool yb,.slice y1 z1 p1,.slice y2 z2 p2]:=tellG hp 0 3 rfl rfl (fun h=>by cases h)
       have q88:f 8= .slice ay ny py:=tellG hp 1 8 rfl rfl (fun h=>by cases h)
       have q90:f 10= .slice a n' p:=tellG hp 2 10 rfl rfl (fun h=>by cases h)
       change OpGoal _ _ _ f wa Ext _;refine oC #[f 3,f 8,f 10] Tryz.func85 rfl rfl ?_;rw[q83,q88,q90];refine(axpy5_calls K (K+K) _ _ _ q r (mkV (catN qs (termsC cs0) i)) _ ((HYR.out.ext (X5.trans hE)).mono HKK.out.2.1) ((HTL.out.ext (X5.trans hE)).le HKK.out.1) ((HSV.out.ext hE).tl (by omega)) (by omega) (by omega) HAX.out).mono ?_;rintro e w' ⟨v',rfl,h1,h2⟩;rw[HMK.out]at h1;exact⟨v',rfl,h2,(h1.to HSZ.out).mono hS⟩
      ·intro f wa hG hp hl;simp only[OpGoal];go_simp;exact⟨_,rfl,Ext.refl _,rfl⟩
      ·intro f wa hG hp hl;have hE:Ext w5 wa:=hG;have hS:=hE.size
       have q92:f 12= .pointer (some ⟨g9,1,none⟩):=tellG hp 0 12 rfl rfl (fun h=>by cases h)
       have q91:=tellG hp 1 11 rfl rfl (fun _=>hE);intro hg0;change OpGoal _ _ _ f wa (Chg _) _;obtain⟨ad',cap',hv⟩:=TO.val q91;have hto:=q91;rw[hv]at hto;exact og_storeS (P:=Tryz.prog) g9 1 36 _ [.int .i64 s,.slice a n' p,.bool false,.slice none 0 0,.slice none 0 0] ad' _ cap' _ _ rfl rfl q92 hv (by kernel_rfl) (show Bx 36 wa _ _ from hg0.trans S5) (show 1<5 by decide) (fun w' hc hb u=>⟨ad',_,cap',hb,hto.chg hc (by omega)⟩)
     ·intro f w6 hG hp;have hz0:=endGS hp 13 (by decide);clear hp;have hC:Chg g9 w5 w6:=ChgS.one hG;obtain⟨a6,n6,p6,S6,ht6⟩:=hz0;have X6:=X5.step hC (by omega);have HT6:=Lib.hid (ht6.mono (show w.heap.size≤_ by omega));have D6:=D5.chg hC (by omega);have T6:=T5.chg hC (by omega);have P6:=P5.chg hC (by omega);have HR6:=Lib.hid (HSR.out.chgN hC S5 S6 (by decide) (by decide));have HQ6:=Lib.hid (HQD.out.chgN hC S5 S6 (by decide) (by decide));have hs6:=hC.size;clear ht6 hC hG D5 T5 P5 S5;go_wp2_with fail;refine wp_region_putg [⟨10,g10,SumQ w6.heap.size g10 (rhsN qs cs0 (i+1)),fun _ _ he h=>h.ext he,fun _ hne hg _ _ he h=>h.chg he hne hg⟩] [PP.val (.agg #[.bool tb,.slice t1 u1 v1,.slice t2 u2 v2]),PP.val (.agg #[.bool qb,.slice qa1 qn1 qc1,.slice qa2 qn2 qc2]),PP.val (.slice (some ⟨g,off,none⟩) n cap),PP.val (.int .i64 (i:Int)),PP.val (.pointer (some ⟨g,off+i*5,none⟩)),PP.val (.pointer (some ⟨g,off+i*5+2,none⟩)),PP.val (.agg #[.bool bby,.slice a1y n1y c1y,.slice a2y n2y c2y]),PP.frQd x,PP.frQdS (q*x) (5*ky+5*k),PP.frQd (rhsN qs cs0 (i+1)),PP.any] [] [10,9,8,7,6,5,4,3,2,1,0]
       (by kernel_rfl) (by kernel_rfl) (fun f=>(by simp only[fillR,fillL,List.setIfInBounds_toArray,List.set_cons_succ,List.set_cons_zero,Nat.reduceAdd];rfl)) ?_ ?_ ?_ ?_ ?_
      ·intro x hx;simp only[List.mem_singleton]at hx;subst hx;show g10<w6.heap.size;omega
      ·intro x hx;simp only[List.mem_singleton]at hx;subst hx;rfl
      ·intro x hx y hy h;simp only[List.mem_singleton]at hx hy;subst hx hy;exact absurd rfl h
      ·refine⟨?_,?_,?_,?_,?_,?_,?_,?_,?_,?_,?_,trivial⟩
       ·intro f wa hG hp hl;have hE:Ext w6 wa:=hG;change OpGoal _ _ _ f wa Ext _;exact og_load (P:=Tryz.prog) _ _ g10 _ _ _ rfl rfl rfl (T6.ext hE) Tryz.underlying81 rfl (by kernel_rfl) rfl
       ·intro f wa hG hp hl;have hE:Ext w6 wa:=hG;change OpGoal _ _ _ f wa Ext _;exact og_load (P:=Tryz.prog) _ _ w3.heap.size _ _ _ rfl rfl rfl (P6.ext hE) Tryz.underlying81 rfl (by kernel_rfl) rfl
       ·intro f wa hG hp hl;simp only[OpGoal];go_simp;exact⟨_,rfl,Ext.refl _,rfl⟩
       ·intro f wa hG hp hl;simp only[OpGoal];go_simp;exact⟨_,rfl,Ext.refl _,rfl⟩
       ·intro f wa hG hp hl
        have q95:f 2= .slice (some ⟨g,off,none⟩) n cap:=tellG hp 0 2 rfl rfl (fun h=>by cases h)
        have q96:f 3= .int .i64 (i:Int):=tellG hp 1 3 rfl rfl (fun h=>by cases h)
        simp only[OpGoal];go_simp;exact⟨_,rfl,Ext.refl _,rfl⟩
       ·intro f wa hG hp hl
        have q97:f 4= .pointer (some ⟨g,off+i*5,none⟩):=tellG hp 0 4 rfl rfl (fun h=>by cases h)
        simp only[OpGoal];go_simp;exact⟨_,rfl,Ext.refl _,rfl⟩
       ·intro f wa hG hp hl;have hE:Ext w6 wa:=hG
        have q98:f 5= .pointer (some ⟨g,off+i*5+2,none⟩):=tellG hp 0 5 rfl rfl (fun h=>by cases h)
        change OpGoal _ _ _ f wa Ext _;have hcs:=HCX.out _ (X6.trans hE);exact og_loadAt (P:=Tryz.prog) _ _ g (off+i*5+2) _ _ rfl rfl q98 (rhs_cells hcs.2.2.1 hcs.2.2.2.1 hcs.2.2.2.2) Tryz.underlying34 rfl (by kernel_rfl) rfl
       ·intro f wa hG hp hl;have hE:Ext w6 wa:=hG;have hS:=hE.size
        have q99:f 6= .agg #[.bool bby,.slice a1y n1y c1y,.slice a2y n2y c2y]:=tellG hp 0 6 rfl rfl (fun h=>by cases h)
        change OpGoal _ _ _ f wa Ext _;refine oC #[f 6] Tryz.func55 rfl rfl ?_;rw[q99];refine(rqofR_calls _ x k _ (HRX.out.ext (X6.trans hE)) (by omega)).mono ?_;rintro e w' ⟨v',rfl,h1,h2⟩;exact⟨v',rfl,h2,h1.mono hS⟩
       ·intro f wa hG hp hl;have hE:Ext w6 wa:=hG;have hS:=hE.size
        have q94:f 1= .agg #[.bool qb,.slice qa1 qn1 qc1,.slice qa2 qn2 qc2]:=tellG hp 0 1 rfl rfl (fun h=>by cases h)
        have q100:=tellG hp 1 7 rfl rfl (fun _=>hE);change OpGoal _ _ _ f wa Ext _;refine oC #[f 1,f 7] Tryz.func63 rfl rfl ?_;rw[q94];refine(rqmul3_calls _ _ q x (5*ky) (5*k) _ ((HQ6.out.ext hE).cq) q100.cq HSQ.out.1 HSQ.out.2 (by omega)).mono ?_;rintro e w' ⟨v',rfl,h1,h3,h2⟩;exact⟨v',rfl,h2,h1.mono hS,h3⟩
       ·intro f wa hG hp hl;have hE:Ext w6 wa:=hG;have hS:=hE.size
        have q93:f 0= .agg #[.bool tb,.slice t1 u1 v1,.slice t2 u2 v2]:=tellG hp 0 0 rfl rfl (fun h=>by cases h)
        have q101:=tellG hp 1 8 rfl rfl (fun _=>hE);change OpGoal _ _ _ f wa Ext _;refine oC #[f 0,f 8] Tryz.func61 rfl rfl ?_;rw[q93];refine(rqadd3_calls _ _ (rhsN qs cs0 i) (q*x) (5*R) (5*ky+5*k) _ ((HR6.out.ext hE).cq) q101.1.cq (szD_of HSZR.out.1) q101.2 (by omega)).mono ?_;rintro e w' ⟨v',rfl,h1,h3,h2⟩;rw[←HRH.out]at h1;exact⟨v',rfl,h2,h1.mono hS⟩
       ·intro f wa hG hp hl;have hE:Ext w6 wa:=hG;have hS:=hE.size;have q102:=tellG hp 0 9 rfl rfl (fun _=>hE);intro hg0;change OpGoal _ _ _ f wa (Chg _) _;obtain⟨b',ad1,m1,e1,ad2,m2,e2,hv,hfq⟩:=FrQd.opn q102;exact og_storeAt (P:=Tryz.prog) g10 0 81 _ [.bool tb,.slice t1 u1 v1,.slice t2 u2 v2] #[.bool b',.slice ad1 m1 e1,.slice ad2 m2 e2] _ _ rfl rfl rfl hv (by kernel_rfl) (show Bx 81 wa _ _ from hg0.trans T6) (show 0+3≤3 by decide) (all3 rfl rfl rfl) (fun w' hc hb u=>⟨b',ad1,m1,e1,ad2,m2,e2,hb,hfq.chg hc (by omega)⟩)
      ·intro f w7 hG hp;have hz0:=endGS hp 10 (by decide);clear hp;have hC:Chg g10 w6 w7:=ChgS.one hG;obtain⟨b',ad1,m1,e1,ad2,m2,e2,T7,hr7⟩:=hz0;have X7:=X6.step hC (by omega);have HJ:Hid (CdJ w K R g6 g9 g10 s qs cs0 (i+1) w7):=Lib.hid ⟨X7,HG.out,D6.chg hC (by omega),⟨a6,n6,p6,S6.chg hC (by omega),TO.chgB HT6.out hC T6 (by decide) (by decide)⟩,⟨b',ad1,m1,e1,ad2,m2,e2,T7,hr7.mono (by omega)⟩,HSZR.out.2⟩;clear hC hG S6 T6 P6 D6 T7 hr7 HR6 HT6 X6 X5 X7;go_wp2;go_roundw
       case rel=>exact ⟨i+1,by omega,congrArg (Value.int .i64) (by omega),HRN,HJ⟩
       case measure=>simp [intOf];omega
    ·have hce:(cs==s)=false:=by simpa using hcs
     have hbad:ruleQ s q (cs,r,x)=false:=by
      cases hr:ruleQ s q (cs,r,x)
      ·rfl
      ·rcases ruleQ_iff.1 hr with h |h |⟨-,h |h⟩
       ·exact absurd h hqz
       ·exact absurd h hc3
       ·exact absurd h.1 hcs
       ·exact absurd h.2 (by grind)
     clear hc3 hs3 hpos hcs;have HE:=Lib.hid (show combE cs0 qs s=241 by rw[combE_r HS.out HNN.out HSN.out,rulesN_bad HQ.out HC.out (by rw[←HN.out];exact hin) hbad];rfl);have XB:=Lib.hid X5;clear hbad;have hq:=D5;have hq0:=hq.cell 0;have hqf0:=hq.free 0;have hq1:=hq.cell 1;have hqf1:=hq.free 1;have hq2:=hq.cell 2;have hqf2:=hq.free 2;have hq3:=hq.cell 3;have hqf3:=hq.free 3;have hq4:=hq.cell 4;have hqf4:=hq.free 4;go_wp2;refine ret_box2 6 7 36 g6 36 _ _ _ (by kernel_rfl) rfl rfl (((((hq.set 0 _).set 1 _).set 2 _).set 3 _).set 4 _) Tryz.underlying36 rfl (by kernel_rfl) rfl ?_;exact⟨zeroC,by rw[HE.out];rfl,XB.out.step (((((Chg.setCell _ g6 0 _).trans (Chg.setCell _ g6 1 _)).trans (Chg.setCell _ g6 2 _)).trans (Chg.setCell _ g6 3 _)).trans (Chg.setCell _ g6 4 _)) hg6w,fun h=>(by rw[HE.out]at h;cases h),fun _=>rfl⟩
 ·have hlt:(i:Int)<(n:Int):=by omega
  obtain⟨⟨cs,r,x⟩,hc⟩:∃c,cs0[i]? =some c:=⟨_,List.getElem?_eq_getElem (by rw[←HN.out];exact hin)⟩;obtain⟨g,off,rfl,ay,ny,py,bby,a1y,n1y,c1y,a2y,n2y,c2y,hcell,hTL,hRX⟩:=HAT.out i _ hc
  simp only at hcell
  obtain⟨hd0,hd1,hd2,hd3,hd4⟩:=hcell wr E0;have HC:=Lib.hid hc;clear hc hcell hTL hRX;go_wp2_with fail;refine(sense11_calls cs wr).mono ?_;rintro e w6 ⟨rfl,e6⟩;have X6:=E0.trans e6;have D6:=D.ext e6;clear hd0 hd1 hd2 hd3 hd4
  cases hsc:sens cs with
  |false=>
   have HE:=Lib.hid (combE_2 (cs:=cs0) (qs:=qs) (s:=s) (.inr (.inr ⟨_,List.mem_of_getElem? HC.out,hsc⟩)));have XB:=Lib.hid X6;clear hsc;have hq:=D6;have hq0:=hq.cell 0;have hqf0:=hq.free 0;have hq1:=hq.cell 1;have hqf1:=hq.free 1;have hq2:=hq.cell 2;have hqf2:=hq.free 2;have hq3:=hq.cell 3;have hqf3:=hq.free 3;have hq4:=hq.cell 4;have hqf4:=hq.free 4;go_wp2;refine ret_box2 6 7 36 g6 36 _ _ _ (by kernel_rfl) rfl rfl (((((hq.set 0 _).set 1 _).set 2 _).set 3 _).set 4 _) Tryz.underlying36 rfl (by kernel_rfl) rfl ?_;exact⟨zeroC,by rw[HE.out];rfl,XB.out.step (((((Chg.setCell _ g6 0 _).trans (Chg.setCell _ g6 1 _)).trans (Chg.setCell _ g6 2 _)).trans (Chg.setCell _ g6 3 _)).trans (Chg.setCell _ g6 4 _)) hg6w,fun h=>(by rw[HE.out]at h;cases h),fun _=>rfl⟩
  |true=>
   have HSN:Hid (∀c∈cs0.take (i+1),sens c.1=true):=Lib.hid fun c hc=>by
    rw[List.take_add_one,HC.out]at hc
    rcases List.mem_append.1 hc with h |h
    ·exact HSN0.out c h
    ·simp only[Option.toList,List.mem_singleton]at h;rw[h];exact hsc
   clear hsc;go_wp2;go_roundw
   case rel=>exact ⟨i+1,by omega,congrArg (Value.int .i64) (by omega),HSN,hE0.trans e6⟩
   case measure=>simp [intOf];omega
end Go.Proofs.YtokfaggcojokgaaGreat
