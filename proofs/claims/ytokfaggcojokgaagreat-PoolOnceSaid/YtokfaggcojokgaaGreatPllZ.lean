/-
 The law PoolScales.
-/
import Derived.Test.YtokfaggcojokgaaGreatPlaZ
import Derived.Test.YtokfaggcojokgaaGreatPldZ
import Derived.Test.YtokfaggcojokgaaGreatCmaZ
import Derived.Test.YtokfaggcojokgaaGreatCnkZ
namespace Go.Proofs.YtokfaggcojokgaaGreat
set_option maxRecDepth 100000
set_option maxHeartbeats 1000000
open Go.RowKit
set_option linter.unusedVariables false
set_option linter.unusedSimpArgs false
def plA:CR:=(1,[(0,((2:Int):Rat)),(1,((4:Int):Rat))],((6:Int):Rat))
def plB:CR:=(1,[(0,((1:Int):Rat)),(1,((2:Int):Rat))],((4:Int):Rat))
def plC:CR:=(1,[(0,((1:Int):Rat)),(1,((2:Int):Rat))],((2:Int):Rat))
def plS:CR:=(1,[(0,((1:Int):Rat)),(1,((2:Int):Rat))],((3:Int):Rat))
theorem pl_s1:scaleC plA=plS:=Prod.ext rfl (Prod.ext (by decide+kernel) (by decide+kernel))
theorem pl_s3:scaleC plC=plC:=Prod.ext rfl (Prod.ext (by decide+kernel) (by decide+kernel))
theorem pl_c1:comesP [] plA=true:=by decide+kernel
theorem pl_c2:comesP [plS] plB=false:=by decide+kernel
theorem pl_c3:comesP [plS] plC=true:=by decide+kernel
theorem pl_l3:likeP plS plC=true:=by decide+kernel
theorem pl_a1:addP [] plA=[plS]:=by unfold addP;rw[pl_c1,pl_s1];rfl
theorem pl_a2:addP [plS] plB=[plS]:=by unfold addP;rw[pl_c2];rfl
theorem pl_a3:addP [plS] plC=[plC]:=by unfold addP;rw[pl_c3,pl_s3];unfold putAt;rw[pl_l3];rfl
theorem pl_f3:formC plC=plC:=Prod.ext rfl (Prod.ext (by decide+kernel) rfl)
theorem pl_br:brokeN [plC] [((3:Int):Rat)]=1:=by decide+kernel
theorem pl_sz:szQ ((1:Int):Rat)≤1∧szQ ((2:Int):Rat)≤1∧szQ ((4:Int):Rat)≤1∧szQ ((6:Int):Rat)≤1∧szQ ((3:Int):Rat)≤1:=by decide+kernel
theorem pl_len{cs:List CR}(h:cs=[]∨cs=[plS]∨cs=[plC]):∀x∈cs,x.2.1.length≤2:=by
 intro x hx
 rcases h with rfl |rfl |rfl
 ·cases hx
 ·rw[List.mem_singleton]at hx;rw[hx];decide
 ·rw[List.mem_singleton]at hx;rw[hx];decide
set_option maxHeartbeats 32000000 in
theorem speaksp_calls(w:World):Calls Tryz.prog 64 #[] w fun e w'=>e= .returned (.bool true)∧Ext w w':=by
 obtain⟨z1,z2,z4,z6,z3⟩:=pl_sz
 have lim:(68719476736:Nat)≤LIM:=by rw[LIM_eq];omega
 go_enter Tryz.func64,Tryz.ntmps64
 go_wp2_with fail;refine(pnew_calls 8 2 w).mono ?_;rintro e w1 ⟨g,rfl,p1,e1⟩;have P1:=Lib.hid p1;clear p1;go_wp2_with fail;refine(pline_calls 2 4 6 w1 (by omega) (by omega) (by omega) 1 z2 z4 z6).mono ?_;rintro e w2 ⟨v2,rfl,r2,e2⟩;have R2:=Lib.hid (show CnR 1 w2 v2 plA from r2.cnR (by omega));have Y2:=Lib.hid (show CnE w2 v2 (fmC plA)from r2.cnE (by omega));obtain⟨a2_,n2_,p2_,b2_,a12_,n12_,c12_,a22_,n22_,c22_,rfl, -⟩:=r2;go_wp2_with fail;refine(padd_calls w.heap.size 1 4 2 g _ [] plA w2 (P1.out.ext e2) R2.out (by have:=(e1.trans e2).size;omega) (by decide) (pl_len (by simp)) (by decide) (by omega) (by omega) (by omega) (by omega) (by omega)).mono ?_;rintro e w3 ⟨rfl,p3,x3⟩;rw[pl_c1];rw[pl_a1]at p3;have P3:=Lib.hid p3;have E3:Ext w w3:=x3 w (e1.trans e2) (Nat.le_refl _);clear p3 x3 R2 Y2 e2;go_wp2_with fail;refine(pline_calls 1 2 4 w3 (by omega) (by omega) (by omega) 1 z1 z2 z4).mono ?_;rintro e w4 ⟨v4,rfl,r4,e4⟩;have R4:=Lib.hid (show CnR 1 w4 v4 plB from r4.cnR (by omega));have Y4:=Lib.hid (show CnE w4 v4 (fmC plB)from r4.cnE (by omega));obtain⟨a4_,n4_,p4_,b4_,a14_,n14_,c14_,a24_,n24_,c24_,rfl, -⟩:=r4;go_wp2_with fail;refine(padd_calls w.heap.size 1 4 2 g _ [plS] plB w4 (P3.out.ext e4) R4.out (by have:=(E3.trans e4).size;omega) (by decide) (pl_len (by simp)) (by decide) (by omega) (by omega) (by omega) (by omega) (by omega)).mono ?_;rintro e w5 ⟨rfl,p5,x5⟩;rw[pl_c2];rw[pl_a2]at p5;have P5:=Lib.hid p5
 have E5:Ext w w5:=x5 w (E3.trans e4) (Nat.le_refl _);clear p5 x5 R4 Y4 e4;go_wp2_with fail;refine(pline_calls 1 2 2 w5 (by omega) (by omega) (by omega) 1 z1 z2 z2).mono ?_;rintro e w6 ⟨v6,rfl,r6,e6⟩;have R6:=Lib.hid (show CnR 1 w6 v6 plC from r6.cnR (by omega));have Y6:=Lib.hid (show CnE w6 v6 (fmC plC)from r6.cnE (by omega));obtain⟨a6_,n6_,p6_,b6_,a16_,n16_,c16_,a26_,n26_,c26_,rfl, -⟩:=r6;go_wp2_with fail;refine(padd_calls w.heap.size 1 4 2 g _ [plS] plC w6 (P5.out.ext e6) R6.out (by have:=(E5.trans e6).size;omega) (by decide) (pl_len (by simp)) (by decide) (by omega) (by omega) (by omega) (by omega) (by omega)).mono ?_;rintro e w7 ⟨rfl,p7,x7⟩;rw[pl_c3];rw[pl_a3]at p7;have P7:=Lib.hid p7;have E7:Ext w w7:=x7 w (E5.trans e6) (Nat.le_refl _);clear p7 x7 R6 Y6 e6;go_wp2_with fail;refine(plen_calls w.heap.size 8 g w7 [plC] P7.out).mono ?_;rintro e w8 ⟨rfl,e8⟩
 have hlen:(([plC]:List CR).length:Int)=1:=rfl
 rw[hlen];have E8:=E7.trans e8;have P8:=Lib.hid (P7.out.ext e8);clear hlen P7 e8;go_wp2_with fail;refine(pcuts_calls w.heap.size 8 18 2 g w8 [plC] P8.out (pl_len (by simp)) (by decide) (by omega) (by omega) (by omega) (by omega)).mono ?_;rintro e w9 ⟨v9,rfl,o9,e9⟩
 have O9:=Lib.hid (show CLE w9 v9 [fmC plC]from by
  have:=SL.mapL (f:=fmC) (OL.sl o9 (by omega)) (R':=CnE) (fun u y hy hR=>hR.cnE (by omega))
  rw[List.map_cons,List.map_nil,pl_f3]at this
  exact this)
 have E9:=E8.trans e9;have P9:=Lib.hid (P8.out.ext e9);clear o9 e9;go_wp2_with fail;refine(pline_calls 1 2 2 w9 (by omega) (by omega) (by omega) 1 z1 z2 z2).mono ?_;rintro e w10 ⟨v10,rfl,r10,e10⟩;have R10:=Lib.hid (show CnR 1 w10 v10 plC from r10.cnR (by omega));have Y10:=Lib.hid (show CnE w10 v10 (fmC plC)from r10.cnE (by omega));obtain⟨a10_,n10_,p10_,b10_,a110_,n110_,c110_,a210_,n210_,c210_,rfl, -⟩:=r10;obtain⟨w11,hw11,e11,bx11,s11⟩:=alloc1 w10 #[.int .i64 1,.slice a10_ n10_ p10_,.bool b10_,.slice a110_ n110_ c110_,.slice a210_ n210_ c210_] 36;have L11:=Lib.hid (cle_new1 (a:=fmC plC) (show Bx 36 w11 w10.heap.size #[.int .i64 (fmC plC).1,.slice a10_ n10_ p10_,.bool b10_,.slice a110_ n110_ c110_,.slice a210_ n210_ c210_]from bx11) (Y10.out.ext e11));have E11:=(E9.trans e10).trans e11;have O11:=Lib.hid ((O9.out.ext e10).ext e11);have P11:=Lib.hid ((P9.out.ext e10).ext e11);clear R10 Y10 bx11 e11 e10 O9 P9 P8 E9 E8;go_wp2_with fail;rw[←hw11];refine(sameC_true _ _ [fmC plC] w11 O11.out L11.out).mono ?_;rintro e w12 ⟨rfl,e12⟩;clear hw11 O11 L11;go_wp2_with fail;refine(whole19_calls 3 w12 (by omega) (by omega)).mono ?_;rintro e w13 ⟨v13,rfl,q13,e13⟩;obtain⟨b13,a13,n13,c13,a13',n13',c13',rfl,q13⟩:=q13.opn;obtain⟨w14,hw14,e14,bx14,s14⟩:=alloc1 w13 #[.bool b13,.slice a13 n13 c13,.slice a13' n13' c13'] 34;have hql:=(One1.ql (k:=1) (S:=w12.heap.size) ⟨_,_,_,_,_,_,_,_,rfl,bx14,q13.ext e14⟩ z3 (by omega))
 obtain⟨g14,hg14,hql⟩:=hql;have HQL:=Lib.hid hql;have e1114:=(e12.trans e13).trans e14;have P14:=Lib.hid (P11.out.ext e1114);have E14:=E11.trans e1114;clear hg14 hql q13 bx14 e12 e13 e14 P11 e1114;go_wp2_with fail;rw[←hw14];refine(pbroken_calls w.heap.size 8 1 2 g _ w14 [plC] [((3:Int):Rat)] P14.out HQL.out (pl_len (by simp)) (by decide) (by omega)).mono ?_;rintro e w15 ⟨⟨a15,c15,rfl⟩,e15⟩;rw[pl_br];go_wp2;go_ret;exact⟨rfl,E14.trans e15⟩
set_option maxHeartbeats 32000000 in
theorem poolScales_calls(v t:Value)(c:CE)(xl:List RE)(w:World)(hv:CnE w v c)(ht:SLQ w t xl):
  Calls Tryz.prog 13 #[v,t] w fun e w'=>e= .returned (.bool true)∧Ext w w':=by
 have HV:=Lib.hid hv;obtain⟨ax,nx,px,bbx,a1x,n1x,c1x,a2x,n2x,c2x,rfl, -, -⟩:=hv;have HT:=Lib.hid ht
 have lim:(68719476736:Nat)≤LIM:=by rw[LIM_eq];omega
 clear ht;obtain⟨w1,hw1,e1,b1_,s1⟩:=alloc1 w #[.int .i64 c.1,.slice ax nx px,.bool bbx,.slice a1x n1x c1x,.slice a2x n2x c2x] 36
 go_enter Tryz.func13,Tryz.ntmps13
 go_wp2_with fail;rw[←hw1];refine(speaksp_calls w1).mono ?_;rintro e w2 ⟨rfl,e2⟩;have E2:=e1.trans e2;have P2:=b1_.ext e2;have hp0:=P2.cell 0;have hp1:=P2.cell 1;have hp2:=P2.cell 2;have hp3:=P2.cell 3;have hp4:=P2.cell 4;clear hw1 b1_ e1 e2;obtain⟨w3,hw3,e3,bx3,s3⟩:=alloc1 w2 #[.int .i64 c.1,.slice ax nx px,.bool bbx,.slice a1x n1x c1x,.slice a2x n2x c2x] 36;have E3:=E2.trans e3;have L3:=cle_new1 bx3 (HV.out.ext E3);go_wp2_with fail;rw[←hw3];refine(greatC_calls _ [c] w3 L3 (by simp)).mono ?_;rintro e w4 ⟨rfl,e4⟩;have E4:=E3.trans e4;have P4:=(P2.ext e3).ext e4;clear hw3 hp0 hp1 hp2 hp3 hp4 bx3 s3 P2 L3 E2 E3 e3 e4;obtain⟨p,hp⟩:∃p,p=greatC [c]:=⟨_,rfl⟩;rw[←hp];have HP:=Lib.hid hp;clear hp
 cases p with
 |true=>
  go_wp2;go_ret;exact⟨rfl,E4⟩
 |false=>
 go_wp2_with fail;refine(greatAll_calls _ xl w4 (HT.out.ext E4)).mono ?_;rintro e w5 ⟨rfl,e5⟩;have E5:=E4.trans e5;have P5:=P4.ext e5;clear E4 P4 e5;obtain⟨r,hr⟩:∃r,r=greatE xl:=⟨_,rfl⟩;rw[←hr];have HR:=Lib.hid hr;clear hr
 cases r with
 |true=>
  go_wp2;go_ret;exact⟨rfl,E5⟩
 |false=>
 obtain⟨⟨la0,la⟩,⟨la2,la3⟩,fa⟩:=great_in (c:=c) HP.out.symm (by simp);obtain⟨y1,y2⟩:=greatE_not HR.out.symm;have FA:=Lib.hid (fun(w':World) (h:Ext w w')=>fa (HV.out.ext h));have GA:=Lib.hid (fun(w':World) (v':Value) (h:CnE w' v' c)=>fa h);obtain⟨X,hX⟩:∃X,X=xl.map ratE:=⟨_,rfl⟩;have XL:Hid (X.length≤30):=Lib.hid (by rw[hX,List.length_map];omega);have TX:=Lib.hid (show∀(w':World),Ext w w'→QL 6 w' t X from fun w' h=>by rw[hX];exact(HT.out.ext h).ql 6 (by omega) (by omega) y2);have TY:=Lib.hid (show∀(w':World),Ext w w'→QL 420 w' t X from fun w' h=>by rw[hX];exact(HT.out.ext h).ql 420 (by omega) (by omega) (fun e he=>Nat.le_trans (y2 e he) (by omega)))
 have SA:Hid ((ratC c).1=c.1):=Lib.hid rfl
 obtain⟨C,hC⟩:∃C,C=ratC c:=⟨_,rfl⟩;rw[←hC]at FA la SA GA;have LA:=Lib.hid la
 have LS1:Hid ((scaleC C).2.1.length≤30):=Lib.hid (by
  have:=mkV_len C.2.1
  show(scV _ (mkV C.2.1)).length≤30
  unfold scV;rw[List.length_map]
  omega)
 have WA:=Lib.hid (And.intro la0 (And.intro la2 la3));have HSH:=scale_holds C X;obtain⟨da,hda⟩:∃da,da=holdsC C X:=⟨_,rfl⟩;rw[←hda]at HSH;have HD:=Lib.hid hda;have HD2:=Lib.hid HSH;clear fa HP HR y1 y2 hX hC la la0 la2 la3 hda HSH;have P:=P5;have hp0:=P.cell 0;have hp1:=P.cell 1;have hp2:=P.cell 2;have hp3:=P.cell 3;have hp4:=P.cell 4;go_wp2_with fail;refine(copyCons_calls _ c w5 (HV.out.ext E5) (by have:=WA.out.1;omega) WA.out.2.1 WA.out.2.2).mono ?_;rintro e w6 ⟨v6,rfl,r6,e6⟩;have C6:=Lib.hid r6.cnE;obtain⟨a6,n6,p6,b6,a16,n16,c16,a26,n26,c26,rfl, -⟩:=r6;clear hp0 hp1 hp2 hp3 hp4 P;go_wp2_with fail;refine(pscale_calls 6 210 _ C w6 (GA.out _ _ C6.out) (by have:=LA.out;omega) (by have:=LA.out;omega) (by omega) (by omega) (by have:=LA.out;omega)).mono ?_;rintro e w7 ⟨v7,rfl,r7,e7⟩;have R7:=Lib.hid (show CnR 420 w7 v7 (scaleC C)from r7.cnR (by omega));have Y7:=Lib.hid (r7.cnE (by omega));obtain⟨a7,n7,p7,b7,a17,n17,c17,a27,n27,c27,rfl, -⟩:=r7;obtain⟨w8,hw8,e8,B8,s8⟩:=alloc1 w7 #[.int .i64 (scaleC C).1,.slice a7 n7 p7,.bool b7,.slice a17 n17 c17,.slice a27 n27 c27] 36;have h58:=(e6.trans e7).trans e8;have E8:=E5.trans h58;have P8:=P5.ext h58;have R8:=Lib.hid (R7.out.ext e8);have Y8:=Lib.hid (Y7.out.ext e8);clear R7 Y7 e6 e7 e8 h58 E5 P5 C6;go_wp2_with fail;rw[←hw8];clear hw8;refine wpQ [PP.val (.agg #[.int .i64 (scaleC C).1,.slice a7 n7 p7,.bool b7,.slice a17 n17 c17,.slice a27 n27 c27]),PP.val (.agg #[.int .i64 c.1,.slice ax nx px,.bool bbx,.slice a1x n1x c1x,.slice a2x n2x c2x]),PP.cnO 422 (scaleC C),PP.val (.bool true),PP.val (.bool true),PP.val (.agg #[.int .i64 (scaleC C).1,.slice a7 n7 p7,.bool b7,.slice a17 n17 c17,.slice a27 n27 c27]),PP.cnO 25260 (scaleC C),PP.val (.agg #[.int .i64 (scaleC C).1,.slice a7 n7 p7,.bool b7,.slice a17 n17 c17,.slice a27 n27 c27]),PP.val (.bool true),PP.val (.bool true),PP.val (.bool true),PP.val (.agg #[.int .i64 (scaleC C).1,.slice a7 n7 p7,.bool b7,.slice a17 n17 c17,.slice a27 n27 c27]),PP.val (t),PP.val (.bool da),PP.val (.agg #[.int .i64 c.1,.slice ax nx px,.bool bbx,.slice a1x n1x c1x,.slice a2x n2x c2x]),PP.val (t),PP.val (.bool da),PP.val (.bool true),PP.val (.bool true),PP.val (.bool true)] [] [0,1,2,3,4,5,6,7,8,9,10,11,12,13,14,15,16,17,18,19] ?_ ?_
 ·refine⟨?_,?_,?_,?_,?_,?_,?_,?_,?_,?_,?_,?_,?_,?_,?_,?_,?_,?_,?_,?_,trivial⟩
  ·intro f w2 hG hp hl;have hE:Ext w8 w2:=hG;change OpGoal _ _ _ f w2 Ext _;exact og_load (P:=Tryz.prog) _ _ w7.heap.size _ _ _ rfl rfl rfl (B8.ext hE) Tryz.underlying36 rfl (by kernel_rfl) rfl
  ·intro f w2 hG hp hl;have hE:Ext w8 w2:=hG;change OpGoal _ _ _ f w2 Ext _;exact og_load (P:=Tryz.prog) _ _ w.heap.size _ _ _ rfl rfl rfl (P8.ext hE) Tryz.underlying36 rfl (by kernel_rfl) rfl
  ·intro f w2 hG hp hl;have hE:Ext w8 w2:=hG;have hS:=hE.size;have q19:=tE hp 0 1 rfl rfl rfl;change OpGoal _ _ _ f w2 Ext _;refine oC #[f 1] Tryz.func66 rfl rfl ?_;rw[q19];refine(rscale_calls 6 211 _ C _ (FA.out _ (E8.trans hE)) (by have:=LA.out;omega) (by have:=LA.out;omega) (by omega) (by omega)).mono ?_;rintro e w' ⟨v',rfl,h1,h2⟩;exact⟨v',rfl,h2,h1.mono hS⟩
  ·intro f w2 hG hp hl;have hE:Ext w8 w2:=hG;have hS:=hE.size;have q18:=tE hp 0 0 rfl rfl rfl;have q20:=tellV hp 1 2 rfl rfl (fun _=>hE);change OpGoal _ _ _ f w2 Ext _;refine oC #[f 0,f 2] Tryz.func23 rfl rfl ?_;rw[q18];refine(sameCons_true _ _ (fmC (scaleC C)) _ (Y8.out.ext hE) (CnO.cnE q20 (by omega))).mono ?_;rintro e w' ⟨rfl,h2⟩;exact⟨_,rfl,h2,rfl⟩
  ·intro f w2 hG hp hl;have q21:=tE hp 0 3 rfl rfl rfl;exact⟨_,rfl,Ext.refl _,q21⟩
  ·intro f w2 hG hp hl;have hE:Ext w8 w2:=hG;have qg:=tE hp 0 4 rfl rfl rfl;change OpGoal _ _ _ f w2 Ext _;refine og_guard (j:=4) (want:=true) rfl qg ?_;change OpGoal _ _ _ f w2 Ext _;exact og_load (P:=Tryz.prog) _ _ w7.heap.size _ _ _ rfl rfl rfl (B8.ext hE) Tryz.underlying36 rfl (by kernel_rfl) rfl
  ·intro f w2 hG hp hl;have hE:Ext w8 w2:=hG;have hS:=hE.size;have q23:=tE hp 0 5 rfl rfl rfl;have qg:=tE hp 1 4 rfl rfl rfl;change OpGoal _ _ _ f w2 Ext _;refine og_guard (j:=4) (want:=true) rfl qg ?_;change OpGoal _ _ _ f w2 Ext _;refine oC #[f 5] Tryz.func65 rfl rfl ?_;rw[q23];refine(pscale_calls 420 12630 _ (scaleC C) _ (R8.out.ext hE) (by have:=LS1.out;omega) (by have:=LS1.out;omega) (by omega) (by omega) (by have:=LS1.out;omega)).mono ?_;rintro e w' ⟨v',rfl,h1,h2⟩;rw[scale_twice]at h1;exact⟨v',rfl,h2,h1.mono hS⟩
  ·intro f w2 hG hp hl;have hE:Ext w8 w2:=hG;have qg:=tE hp 0 4 rfl rfl rfl;change OpGoal _ _ _ f w2 Ext _;refine og_guard (j:=4) (want:=true) rfl qg ?_;change OpGoal _ _ _ f w2 Ext _;exact og_load (P:=Tryz.prog) _ _ w7.heap.size _ _ _ rfl rfl rfl (B8.ext hE) Tryz.underlying36 rfl (by kernel_rfl) rfl
  ·intro f w2 hG hp hl;have hE:Ext w8 w2:=hG;have hS:=hE.size;have q24:=tellV hp 0 6 rfl rfl (fun _=>hE);have q25:=tE hp 1 7 rfl rfl rfl;have qg:=tE hp 3 4 rfl rfl rfl;change OpGoal _ _ _ f w2 Ext _;refine og_guard (j:=4) (want:=true) rfl qg ?_;change OpGoal _ _ _ f w2 Ext _;refine oC #[f 6,f 7] Tryz.func23 rfl rfl ?_;rw[q25];refine(sameCons_true _ _ (fmC (scaleC C)) _ (CnO.cnE q24 (by omega)) (Y8.out.ext hE)).mono ?_;rintro e w' ⟨rfl,h2⟩;exact⟨_,rfl,h2,rfl⟩
  ·intro f w2 hG hp hl;have q22:=tE hp 0 4 rfl rfl rfl;have q26:=tE hp 1 8 rfl rfl rfl;simp only[OpGoal];go_simp;exact⟨_,rfl,Ext.refl _,rfl⟩
  ·intro f w2 hG hp hl;have q27:=tE hp 0 9 rfl rfl rfl;simp only[OpGoal];go_simp;exact⟨_,rfl,Ext.refl _,rfl⟩
  ·intro f w2 hG hp hl;have hE:Ext w8 w2:=hG;have qg:=tE hp 0 10 rfl rfl rfl;change OpGoal _ _ _ f w2 Ext _;refine og_guard (j:=10) (want:=true) rfl qg ?_;change OpGoal _ _ _ f w2 Ext _;exact og_load (P:=Tryz.prog) _ _ w7.heap.size _ _ _ rfl rfl rfl (B8.ext hE) Tryz.underlying36 rfl (by kernel_rfl) rfl
  ·intro f w2 hG hp hl;have qg:=tE hp 0 10 rfl rfl rfl;change OpGoal _ _ _ f w2 Ext _;refine og_guard (j:=10) (want:=true) rfl qg ?_;simp only[OpGoal];go_simp;exact⟨_,rfl,Ext.refl _,rfl⟩
  ·intro f w2 hG hp hl;have hE:Ext w8 w2:=hG;have hS:=hE.size;have q29:=tE hp 0 11 rfl rfl rfl;have q30:=tE hp 1 12 rfl rfl rfl;have qg:=tE hp 2 10 rfl rfl rfl;change OpGoal _ _ _ f w2 Ext _;refine og_guard (j:=10) (want:=true) rfl qg ?_;change OpGoal _ _ _ f w2 Ext _;refine oC #[f 11,f 12] Tryz.func40 rfl rfl ?_;rw[q29,q30];refine(holds11_calls 420 _ _ (scaleC C) X _ (R8.out.ext hE) (TY.out _ (E8.trans hE)) (by omega) (by have:=LS1.out;omega) (by have:=XL.out;omega)).mono ?_;rintro e w' ⟨rfl,h2⟩
   exact⟨_,rfl,h2,by rw[HD2.out]<;>rfl⟩
  ·intro f w2 hG hp hl;have hE:Ext w8 w2:=hG;have qg:=tE hp 0 10 rfl rfl rfl;change OpGoal _ _ _ f w2 Ext _;refine og_guard (j:=10) (want:=true) rfl qg ?_;change OpGoal _ _ _ f w2 Ext _;exact og_load (P:=Tryz.prog) _ _ w.heap.size _ _ _ rfl rfl rfl (P8.ext hE) Tryz.underlying36 rfl (by kernel_rfl) rfl
  ·intro f w2 hG hp hl;have qg:=tE hp 0 10 rfl rfl rfl;change OpGoal _ _ _ f w2 Ext _;refine og_guard (j:=10) (want:=true) rfl qg ?_;simp only[OpGoal];go_simp;exact⟨_,rfl,Ext.refl _,rfl⟩
  ·intro f w2 hG hp hl;have hE:Ext w8 w2:=hG;have hS:=hE.size;have q32:=tE hp 0 14 rfl rfl rfl;have q33:=tE hp 1 15 rfl rfl rfl;have qg:=tE hp 3 10 rfl rfl rfl;change OpGoal _ _ _ f w2 Ext _;refine og_guard (j:=10) (want:=true) rfl qg ?_;change OpGoal _ _ _ f w2 Ext _;refine oC #[f 14,f 15] Tryz.func40 rfl rfl ?_;rw[q32,q33];refine(holds11_calls 6 _ _ C X _ (FA.out _ (E8.trans hE)) (TX.out _ (E8.trans hE)) (by omega) (by have:=LA.out;omega) (by have:=XL.out;omega)).mono ?_;rintro e w' ⟨rfl,h2⟩
   exact⟨_,rfl,h2,by rw[HD.out]<;>rfl⟩
  ·intro f w2 hG hp hl;have q31:=tE hp 0 13 rfl rfl rfl;have q34:=tE hp 1 16 rfl rfl rfl;have qg:=tE hp 2 10 rfl rfl rfl;change OpGoal _ _ _ f w2 Ext _;refine og_guard (j:=10) (want:=true) rfl qg ?_
   cases da<;>(simp only[OpGoal];go_simp;exact⟨_,rfl,Ext.refl _,rfl⟩)
  ·intro f w2 hG hp hl;have q28:=tE hp 0 10 rfl rfl rfl;have q35:=tE hp 1 17 rfl rfl rfl;simp only[OpGoal];go_simp;exact⟨_,rfl,Ext.refl _,rfl⟩
  ·intro f w2 hG hp hl;have q36:=tE hp 0 18 rfl rfl rfl;simp only[OpGoal];go_simp;exact⟨_,rfl,Ext.refl _,rfl⟩
 ·intro f w9 hG hp;have hE:Ext w8 w9:=ChgS.nil hG
  have q4:f 19= .bool true:=endV hp 19 (by decide) rfl (fun h=>by cases h)
  try simp only[q4]
  clear hp;have X9:=E8.trans hG.nil;go_wp2;go_ret;exact⟨rfl,X9⟩
def folP(C:List CR)(i:Nat):List CR:=(C.take i).foldl addP []
theorem folP_succ{C:List CR}{i:Nat}{c:CR}(h:C[i]? =some c):folP C (i+1)=addP (folP C i) c:=by
 unfold folP;rw[take_next h,List.foldl_append]
 rfl
theorem addP_mem{cs:List CR}{c x:CR}(h:x∈addP cs c):x=scaleC c∨x∈cs:=by
 unfold addP at h
 split at h
 ·exact putAt_mem h
 ·exact .inr h
theorem scale_len(c:CR):(scaleC c).2.1.length≤c.2.1.length:=by
 have:=mkV_len c.2.1
 show(scV _ (mkV c.2.1)).length≤_
 unfold scV;rw[List.length_map];exact this
theorem folP_len{C:List CR}{N:Nat}(h:∀c∈C,c.2.1.length≤N):∀i,∀x∈folP C i,x.2.1.length≤N:=by
 intro i
 induction i with
 |zero=>intro x hx;cases hx
 |succ i ih=>
  intro x hx
  cases hc:C[i]? with
  |none=>
   have:C.length≤i:=List.getElem?_eq_none_iff.1 hc
   unfold folP at hx ih;rw[List.take_of_length_le (by omega)]at hx;rw[List.take_of_length_le this]at ih;exact ih x hx
  |some c=>
   rw[folP_succ hc]at hx
   rcases addP_mem hx with rfl |hx
   ·exact Nat.le_trans (scale_len c) (h c (List.mem_of_getElem? hc))
   ·exact ih x hx
theorem addP_size(cs:List CR)(c:CR):(addP cs c).length≤cs.length+1:=by
 unfold addP
 split
 ·exact putAt_len _ _
 ·omega
theorem folP_size(C:List CR):∀i,(folP C i).length≤i:=by
 intro i
 induction i with
 |zero=>exact Nat.le_refl _
 |succ i ih=>
  cases hc:C[i]? with
  |none=>
   have:C.length≤i:=List.getElem?_eq_none_iff.1 hc
   unfold folP at ih ⊢;rw[List.take_of_length_le (by omega)];rw[List.take_of_length_le this]at ih
   omega
  |some c=>
   rw[folP_succ hc]
   have:=addP_size (folP C i) c
   omega
theorem folP_J(C:List CR):∀i,PoolJ (folP C i) (C.take i):=by
 intro i
 induction i with
 |zero=>exact PoolJ.nil
 |succ i ih=>
  cases hc:C[i]? with
  |none=>
   have:C.length≤i:=List.getElem?_eq_none_iff.1 hc
   unfold folP at ih ⊢;rw[List.take_of_length_le (by omega)];rw[List.take_of_length_le this]at ih;exact ih
  |some c=>
   rw[folP_succ hc,take_next hc];exact ih.add c
theorem form_id{cs:List CR}(h:∀x∈cs,Nf x.2.1):cs.map formC=cs:=by
 conv=>rhs;rw[←List.map_id cs]
 refine List.map_congr_left fun x hx=> ?_
 unfold formC;rw[mkV_nfs (h x hx)]
 rfl
theorem apart_no{cs:List CR}(hA:Apart cs)(hN:∀x∈cs,Nf x.2.1){i k:Nat}{x y:CR}(hx:cs[i]? =some x)(hy:cs[k]? =some y):((((i:Int) !=(k:Int))&&(x.1==y.1))&&decide (fmV x.2.1=fmV y.2.1))=false:=by
 by_cases hik:i=k
 ·subst hik
  simp
 ·cases h:(x.1==y.1)with
  |false=>simp
  |true=>
   have hs:x.1=y.1:=by simpa using h
   have hne:¬fmV x.2.1=fmV y.2.1:=fun he=>by
    have he:=fmV_inj he;obtain⟨hil,hxv⟩:=List.getElem?_eq_some_iff.1 hx;obtain⟨hkl,hyv⟩:=List.getElem?_eq_some_iff.1 hy
    rcases Nat.lt_or_gt_of_ne hik with hlt |hlt
    ·have:=List.pairwise_iff_getElem.1 hA i k hil hkl hlt
     rw[hxv,hyv]at this;exact this ⟨hs,by rw[he]⟩
    ·have:=List.pairwise_iff_getElem.1 hA k i hkl hil hlt
     rw[hxv,hyv]at this;exact this ⟨hs.symm,by rw[he]⟩
   rw[decide_eq_false hne,Bool.and_false]
set_option maxHeartbeats 64000000 in
theorem poolOnce_calls(v:Value)(cl:List CE)(w:World)(hv:CLE w v cl)(hb:cl.length≤281474976710656):
  Calls Tryz.prog 14 #[v] w fun e w'=>e= .returned (.bool true)∧Ext w w':=by
 have HV:=Lib.hid hv
 have lim:(68719476736:Nat)≤LIM:=by rw[LIM_eq];omega
 obtain⟨ad,n,cap,hnl,rfl,hn1,hat⟩:=hv.at;have HN:=Lib.hid hnl;have HAT:=Lib.hid hat;clear hnl hat hv
 go_enter Tryz.func14,Tryz.ntmps14
 go_wp2_with fail;refine(speaksp_calls w).mono ?_;rintro e w1 ⟨rfl,E1⟩;go_wp2_with fail;refine(greatC_calls _ cl w1 (HV.out.ext E1) hb).mono ?_;rintro e w2 ⟨rfl,e2⟩;have E2:=E1.trans e2;obtain⟨p,hp⟩:∃p,p=greatC cl:=⟨_,rfl⟩;rw[←hp];have HP:=Lib.hid hp;clear hp e2 E1
 cases p with
 |true=>
  go_wp2;go_ret;exact⟨rfl,E2⟩
 |false=>
 obtain⟨m1,m2⟩:=greatC_not HP.out.symm
 have hn12:n≤12:=by rw[HN.out];exact m1
 obtain⟨C,hC⟩:∃C,C=cl.map ratC:=⟨_,rfl⟩;have HCLN:Hid (∀c∈C,c.2.1.length≤30):=Lib.hid (by rw[hC];intro r hr;obtain⟨c,hc,rfl⟩:=List.mem_map.1 hr;unfold ratC ratT;rw[List.length_map];exact(m2 c hc).1)
 have HNC:Hid (n=C.length):=Lib.hid (by rw[hC,List.length_map];exact HN.out)
 have HCR:=Lib.hid (show∀(i:Nat) (c:CE),cl[i]? =some c→C[i]? =some (ratC c)∧∀(w':World) (v':Value),CnE w' v' c→CnR 6 w' v' (ratC c)from fun i c hi=>⟨by rw[hC,List.getElem?_map,hi];rfl,fun w' v' h=>(great_in HP.out.symm (List.mem_of_getElem? hi)).2.2 h⟩);clear m1 m2 hC HP;go_wp2_with fail;refine(pnew_calls 420 9 w2).mono ?_;rintro e w3 ⟨g,rfl,p3,e3⟩;have P3:=Lib.hid p3;clear p3;go_wp2_with fail
 go_loopw [25] (fun s25 wr=>∃i:Nat,i≤n∧s25= .int .i64 (i:Int)∧Hid (PoolAt w2.heap.size 420 wr g (folP C i))∧Ext w2 wr) (fun s25 _=>((n:Int) - intOf s25).toNat)
 case atStart=>exact ⟨0,Nat.zero_le _,rfl,P3,e3⟩
 case round=>
  obtain⟨i,hi,rfl,hP,hE0⟩:=hrel
  rcases Nat.eq_or_lt_of_le hi with hin |hin
  ·have hlt:¬((i:Int)<(n:Int)):=by omega
   have HJ:Hid (PoolJ (folP C i) C):=Lib.hid (by
    have:=folP_J C i
    rwa [hin,show C.take n=C by rw[HNC.out,List.take_length],←hin]at this)
   have hfl:(folP C i).length≤12:=by have:=folP_size C i;omega
   have HFL:=Lib.hid (folP_len HCLN.out i);have HF:=Lib.hid (form_id fun x hx=>(HJ.out.ok x hx).2.1);obtain⟨cs,hcs⟩:∃cs,cs=folP C i:=⟨_,rfl⟩;rw[←hcs]at HJ hfl HFL HF hP;clear hcs P3;go_wp2_with fail;refine(pcuts_calls w2.heap.size 420 12630 30 g wr cs hP.out HFL.out (by omega) (by omega) (by omega) (by omega) (by omega)).mono ?_;rintro e wC ⟨vC,rfl,oC,eC⟩;rw[HF.out]at oC;have OR:=Lib.hid (show CL 12630 wC vC cs from(OL.sl oC (by omega)).map fun u y h=>h.cnR (by omega));have OE:=Lib.hid (show CLE wC vC (cs.map fmC)from SL.mapL (OL.sl oC (by omega)) (fun u y hy hR=>hR.cnE (by omega)));have EC:=Lib.hid (E2.trans (hE0.trans eC));obtain⟨ada,m,capa,hml,rfl,hm1,hatR⟩:=OR.out.at;obtain⟨ada',m',capa',hml',hav, -,hatE⟩:=OE.out.at;simp only[Value.slice.injEq]at hav;obtain⟨rfl, -,rfl⟩:=hav;have HML:=Lib.hid hml;have HAR:=Lib.hid hatR
   have hatF:∀(i:Nat) (x:CR),cs[i]? =some x→∃ga off,ada=some ⟨ga,off,none⟩∧∃ax nx px,(∀wz,Ext wC wz→wz.cell? ⟨ga,off+i*5,none⟩=some (.int .i64 x.1)∧wz.cell? ⟨ga,off+i*5+1,none⟩=some (.slice ax nx px))∧TLE wC (.slice ax nx px) (fmV x.2.1):=fun i x hx=>by
    obtain⟨ga,off,h1,ax,nx,px,bb,a1,n1,c1,a2,n2,c2, -, -,h2,h3, -⟩:=hatE i (fmC x) (by rw[List.getElem?_map,hx];rfl);exact⟨ga,off,h1,ax,nx,px,fun wz hz=>⟨(h2 wz hz).1,(h2 wz hz).2.1⟩,h3⟩
   have HAE:=Lib.hid hatF;clear hatF
   have hm12:m≤12:=by rw[hml];exact hfl
   clear hml hml' hatR hatE oC eC hP hE0 hfl e3 E2;go_wp2_with fail
   go_loopw [37] (fun s37 wr=>∃i:Nat,i≤m∧s37= .int .i64 (i:Int)∧Ext wC wr) (fun s37 _=>((m:Int) - intOf s37).toNat)
   case atStart=>exact ⟨0,Nat.zero_le _,rfl,Ext.refl _⟩
   case round=>
    obtain⟨i,hi,rfl,hE0⟩:=hrel
    rcases Nat.eq_or_lt_of_le hi with hin |hin
    ·have hlt:¬((i:Int)<(m:Int)):=by omega
     go_wp2_with fail
     go_loopw [78] (fun s78 wr=>∃i:Nat,i≤n∧s78= .int .i64 (i:Int)∧Hid (∀c∈C.take i,c.1≠3)∧Ext wC wr) (fun s78 _=>((n:Int) - intOf s78).toNat)
     case atStart=>exact ⟨0,Nat.zero_le _,rfl,Lib.hid (fun c hc=>by simp at hc),hE0⟩
     clear hE0 hlt hi hin
     case round=>
      obtain⟨i,hi,rfl,hH,hE0⟩:=hrel
      rcases Nat.eq_or_lt_of_le hi with hin |hin
      ·have H3:Hid (∀c∈C,c.1≠3):=Lib.hid (by
        have:=hH.out
        rwa [hin,show C.take n=C by rw[HNC.out,List.take_length]]at this)
       have hlt:¬((i:Int)<(n:Int)):=by omega
       clear hH;go_wp2_with fail
       go_loopw [88] (fun s88 wr=>∃i:Nat,i≤n∧s88= .int .i64 (i:Int)∧Ext wC wr) (fun s88 _=>((n:Int) - intOf s88).toNat)
       case atStart=>exact ⟨0,Nat.zero_le _,rfl,hE0⟩
       clear hE0 hlt hi hin
       case round=>
        obtain⟨i,hi,rfl,hE0⟩:=hrel
        rcases Nat.eq_or_lt_of_le hi with hin |hin
        ·have hlt:¬((i:Int)<(n:Int)):=by omega
         go_wp2;go_ret;exact⟨rfl,EC.out.trans hE0⟩
        ·have hlt:(i:Int)<(n:Int):=by omega
         obtain⟨c0,hx⟩:∃x,cl[i]? =some x:=⟨_,List.getElem?_eq_getElem (by rw[←HN.out];exact hin)⟩;obtain⟨g1,off,rfl,acc,ncc,pcc,bcc,a1cc,n1cc,c1cc,a2cc,n2cc,c2cc, -, -,hcell,hTL,hRX⟩:=HAT.out i _ hx;obtain⟨hc0,hc1,hc2,hc3,hc4⟩:=hcell wr (EC.out.trans hE0);obtain⟨hCi,hcr⟩:=HCR.out i c0 hx;have HTK:=Lib.hid (take_next hCi);have HCM:=Lib.hid (List.mem_of_getElem? hCi);have HCC:=Lib.hid (show∀(w':World),Ext w w'→CnR 6 w' (.agg #[.int .i64 c0.1,.slice acc ncc pcc,.bool bcc,.slice a1cc n1cc c1cc,.slice a2cc n2cc c2cc]) (ratC c0)from fun w' h=>hcr w' _ ⟨_,_,_,_,_,_,_,_,_,_,rfl,hTL.ext h,hRX.ext h⟩)
         have hsc:c0.1=(ratC c0).1:=rfl
         obtain⟨c,hcd⟩:∃c,c=ratC c0:=⟨_,rfl⟩;rw[←hcd]at hsc HTK HCM HCC;rw[hsc]at hc0 HCC;clear hcell hx hTL hRX hcr hCi hcd hsc c0;obtain⟨wl,hwl,el,BC0,sl⟩:=alloc1 wr #[.int .i64 c.1,.slice acc ncc pcc,.bool bcc,.slice a1cc n1cc c1cc,.slice a2cc n2cc c2cc] 36;have hba:=BC0;have hq0:=hba.cell 0;have hq1:=hba.cell 1;have hq2:=hba.cell 2;have hq3:=hba.cell 3;have hq4:=hba.cell 4;rw[hwl]at hq0 hq1 hq2 hq3 hq4;have El:=hE0.trans el;have HCL:=Lib.hid (HCLN.out c HCM.out);have HSL:=Lib.hid (Nat.le_trans (scale_len c) HCL.out);go_wp2_with fail;rw[←hwl];refine(sense11_calls c.1 wl).mono ?_;rintro e w4 ⟨rfl,e4⟩;obtain⟨gc,hgc⟩:∃gc,gc=wr.heap.size:=⟨_,rfl⟩;have BC4:=BC0.ext e4;have E4:=El.trans e4;clear hc0 hc1 hc2 hc3 hc4 hq0 hq1 hq2 hq3 hq4 hba BC0 el El;obtain⟨r,hr⟩:∃r,r=sens c.1:=⟨_,rfl⟩;rw[←hr];have HR:=Lib.hid hr;clear hr
         cases r with
         |false=>
          rw[←hgc]at BC4 ⊢;clear hgc hwl
          have HB0:Hid ((true || cs.any fun x=>domC x (scaleC c))=true):=Lib.hid rfl
          go_wp2_with fail;have HBL:=Lib.hid BC4;have hEL:=E4;clear BC4 E4
          go_loopw [13,102] (fun s13 s102 wr=>∃(k:Nat) (b:Bool),k≤m∧s102= .int .i64 (k:Int)∧s13= .bool b∧Hid (b=(true || (cs.take k).any fun x=>domC x (scaleC c)))∧Ext w4 wr) (fun _ s102 _=>((m:Int) - intOf s102).toNat)
          case atStart=>exact ⟨0,true,Nat.zero_le _,rfl,rfl,Lib.hid (by simp),Ext.refl _⟩
          case round=>
           obtain⟨k,b,hk,rfl,rfl,hB,hE6⟩:=hrel
           rcases Nat.eq_or_lt_of_le hk with hkn |hkn
           ·have hlt2:¬((k:Int)<(m:Int)):=by omega
            have hbt:b=true:=by
             have:=hB.out
             rw[hkn,show cs.take m=cs by rw[HML.out,List.take_length],HB0.out]at this;exact this
            subst hbt;go_wp2;go_roundw
            case rel=>exact ⟨i+1,by omega,congrArg (Value.int .i64) (by omega),hEL.trans hE6⟩
            case measure=>simp [intOf];omega
           ·have hlt2:(k:Int)<(m:Int):=by omega
            obtain⟨x,hx⟩:∃x,cs[k]? =some x:=⟨_,List.getElem?_eq_getElem (by rw[←HML.out];exact hkn)⟩;obtain⟨ga,off,rfl,axx,nxx,pxx,bxx,a1xx,n1xx,c1xx,a2xx,n2xx,c2xx,hcx,hTx,hRx⟩:=HAR.out k x hx;obtain⟨hc0,hc1,hc2,hc3,hc4⟩:=hcx wr (hEL.trans hE6);have HXR:=Lib.hid (show∀w',Ext wC w'→CnR 12630 w' (.agg #[.int .i64 x.1,.slice axx nxx pxx,.bool bxx,.slice a1xx n1xx c1xx,.slice a2xx n2xx c2xx]) x from fun w' h=>⟨_,_,_,_,_,_,_,_,_,_,rfl,hTx.ext h,hRx.ext h⟩);have HTX:=Lib.hid (take_next hx);have HXL:=Lib.hid (HFL.out x (List.mem_of_getElem? hx));obtain⟨dd,hdd⟩:∃dd,dd=domC x (scaleC c):=⟨_,rfl⟩;have HDD:=Lib.hid hdd;obtain⟨b2,hb2⟩:∃b2,b2=(b || dd):=⟨_,rfl⟩
            have HB2:Hid (b2=(true || (cs.take (k+1)).any fun x=>domC x (scaleC c))):=Lib.hid (by
             rw[HTX.out,List.any_append,hb2,hB.out,hdd]
             simp[Bool.or_assoc])
            clear hx hcx hTx hRx hdd hB;obtain⟨wx,hwx,ex,BX,sx⟩:=alloc1 wr #[.int .i64 x.1,.slice axx nxx pxx,.bool bxx,.slice a1xx n1xx c1xx,.slice a2xx n2xx c2xx] 36;have ex1:=hEL.trans (hE6.trans ex);have hE1:=EC.out.trans ex1;have BC:=HBL.out.ext (hE6.trans ex);have hE7:=hE6.trans ex;obtain⟨gx,hgx⟩:∃gx,gx=wr.heap.size:=⟨_,rfl⟩;rw[←hgx]at BX
            cases b with
            |true=>
             have hb2':b2=true:=hb2
             clear hb2;subst hb2';go_wp2_with fail;rw[←hwx,←hgx];clear hc0 hc1 hc2 hc3 hc4 hwx hgx;refine wpQ [PP.val (.bool true),PP.val (.bool true),PP.any,PP.any,PP.any,PP.any,PP.val (.bool true),PP.val (.bool true)] [(0,7,13)] [0,1,2,3,4,5,6,7] ?_ ?_
             ·refine⟨?_,?_,?_,?_,?_,?_,?_,?_,trivial⟩
              ·intro f w2 hG hp hl
               have l13:f 7= .bool true:=hl.1 rfl
               simp only[OpGoal];go_simp;exact⟨_,rfl,Ext.refl _,rfl⟩
              ·intro f w2 hG hp hl;have q106:=tE hp 0 0 rfl rfl rfl;simp only[OpGoal];go_simp;exact⟨_,rfl,Ext.refl _,rfl⟩
              ·intro f w2 hG hp hl;have qg:=tE hp 0 1 rfl rfl rfl;exact og_skip rfl qg (by decide) trivial
              ·intro f w2 hG hp hl;have qg:=tE hp 0 1 rfl rfl rfl;exact og_skip rfl qg (by decide) trivial
              ·intro f w2 hG hp hl;have qg:=tE hp 1 1 rfl rfl rfl;exact og_skip rfl qg (by decide) trivial
              ·intro f w2 hG hp hl;have qg:=tE hp 3 1 rfl rfl rfl;exact og_skip rfl qg (by decide) trivial
              ·intro f w2 hG hp hl;have q107:=tE hp 0 1 rfl rfl rfl;simp only[OpGoal];go_simp;exact⟨_,rfl,Ext.refl _,rfl⟩
              ·intro f w2 hG hp hl;have q112:=tE hp 0 6 rfl rfl rfl;simp only[OpGoal];go_simp;exact⟨_,rfl,Ext.refl _,rfl⟩
             ·intro f wq hG hp;have hE:Ext wx wq:=ChgS.nil hG
              have q13:f 7= .bool true:=endV hp 7 (by decide) rfl (fun h=>by cases h)
              try simp only[q13]
              clear hp;have hE8:=hE7.trans hG.nil;go_wp2;go_roundw
              case rel=>exact ⟨k+1,true,by omega,congrArg (Value.int .i64) (by omega),rfl,HB2,hE8⟩
              case measure=>simp [intOf];omega
            |false=>
             have hb2':dd=b2:=hb2.symm
             clear hb2;subst hb2';go_wp2_with fail;rw[←hwx,←hgx];clear hc0 hc1 hc2 hc3 hc4 hwx hgx;refine wpQ [PP.val (.bool false),PP.val (.bool false),PP.val (.agg #[.int .i64 x.1,.slice axx nxx pxx,.bool bxx,.slice a1xx n1xx c1xx,.slice a2xx n2xx c2xx]),PP.val (.agg #[.int .i64 c.1,.slice acc ncc pcc,.bool bcc,.slice a1cc n1cc c1cc,.slice a2cc n2cc c2cc]),PP.cnO 422 (scaleC c),PP.val (.bool dd),PP.val (.bool dd),PP.val (.bool dd)] [(0,7,13)] [0,1,2,3,4,5,6,7] ?_ ?_
             ·refine⟨?_,?_,?_,?_,?_,?_,?_,?_,trivial⟩
              ·intro f w2 hG hp hl
               have l13:f 7= .bool false:=hl.1 rfl
               simp only[OpGoal];go_simp;exact⟨_,rfl,Ext.refl _,rfl⟩
              ·intro f w2 hG hp hl;have q106:=tE hp 0 0 rfl rfl rfl;simp only[OpGoal];go_simp;exact⟨_,rfl,Ext.refl _,rfl⟩
              ·intro f w2 hG hp hl;have hE:Ext wx w2:=hG;have qg:=tE hp 0 1 rfl rfl rfl;change OpGoal _ _ _ f w2 Ext _;refine og_guard (j:=1) (want:=false) rfl qg ?_;change OpGoal _ _ _ f w2 Ext _;exact og_load (P:=Tryz.prog) _ _ gx _ _ _ rfl rfl rfl (BX.ext hE) Tryz.underlying36 rfl (by kernel_rfl) rfl
              ·intro f w2 hG hp hl;have hE:Ext wx w2:=hG;have qg:=tE hp 0 1 rfl rfl rfl;change OpGoal _ _ _ f w2 Ext _;refine og_guard (j:=1) (want:=false) rfl qg ?_;change OpGoal _ _ _ f w2 Ext _;exact og_load (P:=Tryz.prog) _ _ gc _ _ _ rfl rfl rfl (BC.ext hE) Tryz.underlying36 rfl (by kernel_rfl) rfl
              ·intro f w2 hG hp hl;have hE:Ext wx w2:=hG;have hS:=hE.size;have q109:=tE hp 0 3 rfl rfl rfl;have qg:=tE hp 1 1 rfl rfl rfl;change OpGoal _ _ _ f w2 Ext _;refine og_guard (j:=1) (want:=false) rfl qg ?_;change OpGoal _ _ _ f w2 Ext _;refine oC #[f 3] Tryz.func66 rfl rfl ?_;rw[q109];refine(rscale_calls 6 211 _ c _ (HCC.out _ (hE1.trans hE)) (by have:=HCL.out;omega) (by have:=HCL.out;omega) (by omega) (by omega)).mono ?_;rintro e w' ⟨v',rfl,h1,h2⟩;exact⟨v',rfl,h2,h1.mono hS⟩
              ·intro f w2 hG hp hl;have hE:Ext wx w2:=hG;have hS:=hE.size;have q108:=tE hp 0 2 rfl rfl rfl;have q110:=tellV hp 1 4 rfl rfl (fun _=>hE);have qg:=tE hp 3 1 rfl rfl rfl;change OpGoal _ _ _ f w2 Ext _;refine og_guard (j:=1) (want:=false) rfl qg ?_;change OpGoal _ _ _ f w2 Ext _;refine oC #[f 2,f 4] Tryz.func29 rfl rfl ?_;rw[q108];refine(dominates11_calls 12630 _ _ x (scaleC c) _ (HXR.out _ (ex1.trans hE)) ((q110.cnR (by omega)).le (by omega)) (by omega) (by have:=HXL.out;omega) (by have:=HSL.out;omega)).mono ?_;rintro e w' ⟨rfl,h2⟩
               exact⟨_,rfl,h2,by rw[HDD.out]<;>rfl⟩
              ·intro f w2 hG hp hl;have q107:=tE hp 0 1 rfl rfl rfl;have q111:=tE hp 1 5 rfl rfl rfl;simp only[OpGoal];go_simp;exact⟨_,rfl,Ext.refl _,rfl⟩
              ·intro f w2 hG hp hl;have q112:=tE hp 0 6 rfl rfl rfl;simp only[OpGoal];go_simp;exact⟨_,rfl,Ext.refl _,rfl⟩
             ·intro f wq hG hp;have hE:Ext wx wq:=ChgS.nil hG
              have q13:f 7= .bool dd:=endV hp 7 (by decide) rfl (fun h=>by cases h)
              try simp only[q13]
              clear hp;have hE8:=hE7.trans hG.nil;go_wp2;go_roundw
              case rel=>exact ⟨k+1,dd,by omega,congrArg (Value.int .i64) (by omega),rfl,HB2,hE8⟩
              case measure=>simp [intOf];omega
         |true=>
          have hba:=BC4;have hq0:=hba.cell 0;have hq1:=hba.cell 1;have hq2:=hba.cell 2;have hq3:=hba.cell 3;have hq4:=hba.cell 4;go_wp2_with fail;refine(bare11_calls 6 _ c w4 (HCC.out _ (EC.out.trans E4)) (by omega) (by have:=HCL.out;omega)).mono ?_;rintro e w5 ⟨rfl,e5⟩;have BC5:=BC4.ext e5;have E5:=E4.trans e5;rw[←hgc]at BC5 ⊢;clear hq0 hq1 hq2 hq3 hq4 hba BC4 e4 e5 E4 hgc hwl;obtain⟨b0,hb0⟩:∃b0,b0=bareC c:=⟨_,rfl⟩;rw[←hb0]
          have HB0:Hid ((b0 || cs.any fun x=>domC x (scaleC c))=true):=Lib.hid (by
           cases hb:b0 with
           |true=>rfl
           |false=>
            obtain⟨x,hx1,hx2⟩:=HJ.out.dom H3.out c HCM.out HR.out.symm (by rw[←hb0];exact hb);rw[Bool.false_or]
            exact List.any_eq_true.2 ⟨x,hx1,hx2⟩)
          clear hb0;go_wp2_with fail;have HBL:=Lib.hid BC5;have hEL:=E5;clear BC5 E5
          go_loopw [13,102] (fun s13 s102 wr=>∃(k:Nat) (b:Bool),k≤m∧s102= .int .i64 (k:Int)∧s13= .bool b∧Hid (b=(b0 || (cs.take k).any fun x=>domC x (scaleC c)))∧Ext w5 wr) (fun _ s102 _=>((m:Int) - intOf s102).toNat)
          case atStart=>exact ⟨0,b0,Nat.zero_le _,rfl,rfl,Lib.hid (by simp),Ext.refl _⟩
          case round=>
           obtain⟨k,b,hk,rfl,rfl,hB,hE6⟩:=hrel
           rcases Nat.eq_or_lt_of_le hk with hkn |hkn
           ·have hlt2:¬((k:Int)<(m:Int)):=by omega
            have hbt:b=true:=by
             have:=hB.out
             rw[hkn,show cs.take m=cs by rw[HML.out,List.take_length],HB0.out]at this;exact this
            subst hbt;go_wp2;go_roundw
            case rel=>exact ⟨i+1,by omega,congrArg (Value.int .i64) (by omega),hEL.trans hE6⟩
            case measure=>simp [intOf];omega
           ·have hlt2:(k:Int)<(m:Int):=by omega
            obtain⟨x,hx⟩:∃x,cs[k]? =some x:=⟨_,List.getElem?_eq_getElem (by rw[←HML.out];exact hkn)⟩;obtain⟨ga,off,rfl,axx,nxx,pxx,bxx,a1xx,n1xx,c1xx,a2xx,n2xx,c2xx,hcx,hTx,hRx⟩:=HAR.out k x hx;obtain⟨hc0,hc1,hc2,hc3,hc4⟩:=hcx wr (hEL.trans hE6);have HXR:=Lib.hid (show∀w',Ext wC w'→CnR 12630 w' (.agg #[.int .i64 x.1,.slice axx nxx pxx,.bool bxx,.slice a1xx n1xx c1xx,.slice a2xx n2xx c2xx]) x from fun w' h=>⟨_,_,_,_,_,_,_,_,_,_,rfl,hTx.ext h,hRx.ext h⟩);have HTX:=Lib.hid (take_next hx);have HXL:=Lib.hid (HFL.out x (List.mem_of_getElem? hx));obtain⟨dd,hdd⟩:∃dd,dd=domC x (scaleC c):=⟨_,rfl⟩;have HDD:=Lib.hid hdd;obtain⟨b2,hb2⟩:∃b2,b2=(b || dd):=⟨_,rfl⟩
            have HB2:Hid (b2=(b0 || (cs.take (k+1)).any fun x=>domC x (scaleC c))):=Lib.hid (by
             rw[HTX.out,List.any_append,hb2,hB.out,hdd]
             simp[Bool.or_assoc])
            clear hx hcx hTx hRx hdd hB;obtain⟨wx,hwx,ex,BX,sx⟩:=alloc1 wr #[.int .i64 x.1,.slice axx nxx pxx,.bool bxx,.slice a1xx n1xx c1xx,.slice a2xx n2xx c2xx] 36;have ex1:=hEL.trans (hE6.trans ex);have hE1:=EC.out.trans ex1;have BC:=HBL.out.ext (hE6.trans ex);have hE7:=hE6.trans ex;obtain⟨gx,hgx⟩:∃gx,gx=wr.heap.size:=⟨_,rfl⟩;rw[←hgx]at BX
            cases b with
            |true=>
             have hb2':b2=true:=hb2
             clear hb2;subst hb2';go_wp2_with fail;rw[←hwx,←hgx];clear hc0 hc1 hc2 hc3 hc4 hwx hgx;refine wpQ [PP.val (.bool true),PP.val (.bool true),PP.any,PP.any,PP.any,PP.any,PP.val (.bool true),PP.val (.bool true)] [(0,7,13)] [0,1,2,3,4,5,6,7] ?_ ?_
             ·refine⟨?_,?_,?_,?_,?_,?_,?_,?_,trivial⟩
              ·intro f w2 hG hp hl
               have l13:f 7= .bool true:=hl.1 rfl
               simp only[OpGoal];go_simp;exact⟨_,rfl,Ext.refl _,rfl⟩
              ·intro f w2 hG hp hl;have q106:=tE hp 0 0 rfl rfl rfl;simp only[OpGoal];go_simp;exact⟨_,rfl,Ext.refl _,rfl⟩
              ·intro f w2 hG hp hl;have qg:=tE hp 0 1 rfl rfl rfl;exact og_skip rfl qg (by decide) trivial
              ·intro f w2 hG hp hl;have qg:=tE hp 0 1 rfl rfl rfl;exact og_skip rfl qg (by decide) trivial
              ·intro f w2 hG hp hl;have qg:=tE hp 1 1 rfl rfl rfl;exact og_skip rfl qg (by decide) trivial
              ·intro f w2 hG hp hl;have qg:=tE hp 3 1 rfl rfl rfl;exact og_skip rfl qg (by decide) trivial
              ·intro f w2 hG hp hl;have q107:=tE hp 0 1 rfl rfl rfl;simp only[OpGoal];go_simp;exact⟨_,rfl,Ext.refl _,rfl⟩
              ·intro f w2 hG hp hl;have q112:=tE hp 0 6 rfl rfl rfl;simp only[OpGoal];go_simp;exact⟨_,rfl,Ext.refl _,rfl⟩
             ·intro f wq hG hp;have hE:Ext wx wq:=ChgS.nil hG
              have q13:f 7= .bool true:=endV hp 7 (by decide) rfl (fun h=>by cases h)
              try simp only[q13]
              clear hp;have hE8:=hE7.trans hG.nil;go_wp2;go_roundw
              case rel=>exact ⟨k+1,true,by omega,congrArg (Value.int .i64) (by omega),rfl,HB2,hE8⟩
              case measure=>simp [intOf];omega
            |false=>
             have hb2':dd=b2:=hb2.symm
             clear hb2;subst hb2';go_wp2_with fail;rw[←hwx,←hgx];clear hc0 hc1 hc2 hc3 hc4 hwx hgx;refine wpQ [PP.val (.bool false),PP.val (.bool false),PP.val (.agg #[.int .i64 x.1,.slice axx nxx pxx,.bool bxx,.slice a1xx n1xx c1xx,.slice a2xx n2xx c2xx]),PP.val (.agg #[.int .i64 c.1,.slice acc ncc pcc,.bool bcc,.slice a1cc n1cc c1cc,.slice a2cc n2cc c2cc]),PP.cnO 422 (scaleC c),PP.val (.bool dd),PP.val (.bool dd),PP.val (.bool dd)] [(0,7,13)] [0,1,2,3,4,5,6,7] ?_ ?_
             ·refine⟨?_,?_,?_,?_,?_,?_,?_,?_,trivial⟩
              ·intro f w2 hG hp hl
               have l13:f 7= .bool false:=hl.1 rfl
               simp only[OpGoal];go_simp;exact⟨_,rfl,Ext.refl _,rfl⟩
              ·intro f w2 hG hp hl;have q106:=tE hp 0 0 rfl rfl rfl;simp only[OpGoal];go_simp;exact⟨_,rfl,Ext.refl _,rfl⟩
              ·intro f w2 hG hp hl;have hE:Ext wx w2:=hG;have qg:=tE hp 0 1 rfl rfl rfl;change OpGoal _ _ _ f w2 Ext _;refine og_guard (j:=1) (want:=false) rfl qg ?_;change OpGoal _ _ _ f w2 Ext _;exact og_load (P:=Tryz.prog) _ _ gx _ _ _ rfl rfl rfl (BX.ext hE) Tryz.underlying36 rfl (by kernel_rfl) rfl
              ·intro f w2 hG hp hl;have hE:Ext wx w2:=hG;have qg:=tE hp 0 1 rfl rfl rfl;change OpGoal _ _ _ f w2 Ext _;refine og_guard (j:=1) (want:=false) rfl qg ?_;change OpGoal _ _ _ f w2 Ext _;exact og_load (P:=Tryz.prog) _ _ gc _ _ _ rfl rfl rfl (BC.ext hE) Tryz.underlying36 rfl (by kernel_rfl) rfl
              ·intro f w2 hG hp hl;have hE:Ext wx w2:=hG;have hS:=hE.size;have q109:=tE hp 0 3 rfl rfl rfl;have qg:=tE hp 1 1 rfl rfl rfl;change OpGoal _ _ _ f w2 Ext _;refine og_guard (j:=1) (want:=false) rfl qg ?_;change OpGoal _ _ _ f w2 Ext _;refine oC #[f 3] Tryz.func66 rfl rfl ?_;rw[q109];refine(rscale_calls 6 211 _ c _ (HCC.out _ (hE1.trans hE)) (by have:=HCL.out;omega) (by have:=HCL.out;omega) (by omega) (by omega)).mono ?_;rintro e w' ⟨v',rfl,h1,h2⟩;exact⟨v',rfl,h2,h1.mono hS⟩
              ·intro f w2 hG hp hl;have hE:Ext wx w2:=hG;have hS:=hE.size;have q108:=tE hp 0 2 rfl rfl rfl;have q110:=tellV hp 1 4 rfl rfl (fun _=>hE);have qg:=tE hp 3 1 rfl rfl rfl;change OpGoal _ _ _ f w2 Ext _;refine og_guard (j:=1) (want:=false) rfl qg ?_;change OpGoal _ _ _ f w2 Ext _;refine oC #[f 2,f 4] Tryz.func29 rfl rfl ?_;rw[q108];refine(dominates11_calls 12630 _ _ x (scaleC c) _ (HXR.out _ (ex1.trans hE)) ((q110.cnR (by omega)).le (by omega)) (by omega) (by have:=HXL.out;omega) (by have:=HSL.out;omega)).mono ?_;rintro e w' ⟨rfl,h2⟩
               exact⟨_,rfl,h2,by rw[HDD.out]<;>rfl⟩
              ·intro f w2 hG hp hl;have q107:=tE hp 0 1 rfl rfl rfl;have q111:=tE hp 1 5 rfl rfl rfl;simp only[OpGoal];go_simp;exact⟨_,rfl,Ext.refl _,rfl⟩
              ·intro f w2 hG hp hl;have q112:=tE hp 0 6 rfl rfl rfl;simp only[OpGoal];go_simp;exact⟨_,rfl,Ext.refl _,rfl⟩
             ·intro f wq hG hp;have hE:Ext wx wq:=ChgS.nil hG
              have q13:f 7= .bool dd:=endV hp 7 (by decide) rfl (fun h=>by cases h)
              try simp only[q13]
              clear hp;have hE8:=hE7.trans hG.nil;go_wp2;go_roundw
              case rel=>exact ⟨k+1,dd,by omega,congrArg (Value.int .i64) (by omega),rfl,HB2,hE8⟩
              case measure=>simp [intOf];omega
      ·have hlt:(i:Int)<(n:Int):=by omega
       obtain⟨c0,hx⟩:∃x,cl[i]? =some x:=⟨_,List.getElem?_eq_getElem (by rw[←HN.out];exact hin)⟩;obtain⟨g1,off,rfl,acc,ncc,pcc,bcc,a1cc,n1cc,c1cc,a2cc,n2cc,c2cc, -, -,hcell,hTL,hRX⟩:=HAT.out i _ hx;obtain⟨hc0,hc1,hc2,hc3,hc4⟩:=hcell wr (EC.out.trans hE0);obtain⟨hCi,hcr⟩:=HCR.out i c0 hx;have HTK:=Lib.hid (take_next hCi);have HCM:=Lib.hid (List.mem_of_getElem? hCi);have HCC:=Lib.hid (show∀(w':World),Ext w w'→CnR 6 w' (.agg #[.int .i64 c0.1,.slice acc ncc pcc,.bool bcc,.slice a1cc n1cc c1cc,.slice a2cc n2cc c2cc]) (ratC c0)from fun w' h=>hcr w' _ ⟨_,_,_,_,_,_,_,_,_,_,rfl,hTL.ext h,hRX.ext h⟩)
       have hsc:c0.1=(ratC c0).1:=rfl
       obtain⟨c,hcd⟩:∃c,c=ratC c0:=⟨_,rfl⟩;rw[←hcd]at hsc HTK HCM HCC;rw[hsc]at hc0 HCC;clear hcell hx hTL hRX hcr hCi hcd hsc c0;obtain⟨wl,hwl,el,BC0,sl⟩:=alloc1 wr #[.int .i64 c.1,.slice acc ncc pcc,.bool bcc,.slice a1cc n1cc c1cc,.slice a2cc n2cc c2cc] 36;have hba:=BC0;have hq0:=hba.cell 0;have hq1:=hba.cell 1;have hq2:=hba.cell 2;have hq3:=hba.cell 3;have hq4:=hba.cell 4;rw[hwl]at hq0 hq1 hq2 hq3 hq4;have El:=hE0.trans el
       by_cases h3:c.1=3
       ·have h3b:(c.1==3)=true:=by simpa using h3
        clear h3;go_wp2;go_ret;exact⟨rfl,by rw[←hwl];exact EC.out.trans El⟩
       ·have h3b:(c.1==3)=false:=by simpa using h3
        have HN3:Hid (∀d∈C.take (i+1),d.1≠3):=Lib.hid (fun d hd=>by
         rw[HTK.out]at hd
         rcases List.mem_append.1 hd with hd |hd
         ·exact hH.out d hd
         ·rw[List.mem_singleton]at hd;rw[hd]
          exact h3)
        go_wp2;go_roundw
        case rel=>exact ⟨i+1,by omega,congrArg (Value.int .i64) (by omega),HN3,by rw[←hwl];exact El⟩
        case measure=>simp [intOf];omega
    ·have hlt:(i:Int)<(m:Int):=by omega
     obtain⟨x,hx⟩:∃x,cs[i]? =some x:=⟨_,List.getElem?_eq_getElem (by rw[←HML.out];exact hin)⟩;obtain⟨ga,off,rfl,ax,nx,px,hcx,hTx⟩:=HAE.out i x hx;have HXC:=Lib.hid hcx;have HXT:=Lib.hid hTx;have HX:=Lib.hid hx;clear hx hcx hTx;go_wp2_with fail
     go_loopw [42] (fun s42 wr=>∃k:Nat,k≤m∧s42= .int .i64 (k:Int)∧Ext wC wr) (fun s42 _=>((m:Int) - intOf s42).toNat)
     case atStart=>exact ⟨0,Nat.zero_le _,rfl,hE0⟩
     clear hE0
     case round=>
      obtain⟨k,hk,rfl,hE0⟩:=hrel
      rcases Nat.eq_or_lt_of_le hk with hkn |hkn
      ·have hlt2:¬((k:Int)<(m:Int)):=by omega
       go_wp2;go_roundw
       case rel=>exact ⟨i+1,by omega,congrArg (Value.int .i64) (by omega),hE0⟩
       case measure=>simp [intOf];omega
      ·have hlt2:(k:Int)<(m:Int):=by omega
       obtain⟨y,hy⟩:∃x,cs[k]? =some x:=⟨_,List.getElem?_eq_getElem (by rw[←HML.out];exact hkn)⟩;obtain⟨ga',off',hga,ay,ny,py,hcy,hTy⟩:=HAE.out k y hy
       cases hga
       have HYC:=Lib.hid hcy;have HYT:=Lib.hid hTy;obtain⟨d1,hd1⟩:∃d,d=((i:Int) !=(k:Int)):=⟨_,rfl⟩;obtain⟨d2,hd2⟩:∃d,d=(x.1==y.1):=⟨_,rfl⟩;obtain⟨d3,hd3⟩:∃d,d=decide (fmV x.2.1=fmV y.2.1):=⟨_,rfl⟩;have HNO:=Lib.hid (apart_no HJ.out.apart (fun x hx=>(HJ.out.ok x hx).2.1) HX.out hy);rw[←hd1,←hd2,←hd3]at HNO;have HD1:=Lib.hid hd1;have HD2:=Lib.hid hd2;have HD3:=Lib.hid hd3;clear hd1 hd2 hd3 hy hcy hTy;go_wp2_with fail;refine wpQ [PP.val (.int .i64 (i:Int)),PP.val (.int .i64 (k:Int)),PP.val (.bool d1),PP.val (.bool d1),PP.whn d1 (PP.val (.slice (some ⟨ga,off,none⟩) m capa)),PP.whn d1 (PP.val (.int .i64 (i:Int))),PP.whn d1 (PP.val (.pointer (some ⟨ga,off+i*5,none⟩))),PP.whn d1 (PP.val (.pointer (some ⟨ga,off+i*5,none⟩))),PP.whn d1 (PP.val (.int .i64 x.1)),PP.whn d1 (PP.val (.slice (some ⟨ga,off,none⟩) m capa)),PP.whn d1 (PP.val (.int .i64 (k:Int))),PP.whn d1 (PP.val (.pointer (some ⟨ga,off+k*5,none⟩))),PP.whn d1 (PP.val (.pointer (some ⟨ga,off+k*5,none⟩))),PP.whn d1 (PP.val (.int .i64 y.1)),PP.whn d1 (PP.val (.bool d2)),PP.val (.bool (d1&&d2)),PP.val (.bool (d1&&d2)),PP.whn ((d1&&d2)) (PP.val (.slice (some ⟨ga,off,none⟩) m capa)),PP.whn ((d1&&d2)) (PP.val (.int .i64 (i:Int))),PP.whn ((d1&&d2)) (PP.val (.pointer (some ⟨ga,off+i*5,none⟩))),PP.whn ((d1&&d2)) (PP.val (.pointer (some ⟨ga,off+i*5+1,none⟩))),PP.whn ((d1&&d2)) (PP.val (.slice ax nx px)),PP.whn ((d1&&d2)) (PP.val (.slice (some ⟨ga,off,none⟩) m capa)),PP.whn ((d1&&d2)) (PP.val (.int .i64 (k:Int))),PP.whn ((d1&&d2)) (PP.val (.pointer (some ⟨ga,off+k*5,none⟩))),PP.whn ((d1&&d2)) (PP.val (.pointer (some ⟨ga,off+k*5+1,none⟩))),PP.whn ((d1&&d2)) (PP.val (.slice ay ny py)),PP.whn ((d1&&d2)) (PP.val (.bool d3)),PP.val (.bool (((d1&&d2))&&d3))] [] [0,1,2,3,4,5,6,7,8,9,10,11,12,13,14,15,16,17,18,19,20,21,22,23,24,25,26,27,28] ?_ ?_
       ·refine⟨?_,?_,?_,?_,?_,?_,?_,?_,?_,?_,?_,?_,?_,?_,?_,?_,?_,?_,?_,?_,?_,?_,?_,?_,?_,?_,?_,?_,?_,trivial⟩
        ·intro f w2 hG hp hl;simp only[OpGoal];go_simp;exact⟨_,rfl,Ext.refl _,rfl⟩
        ·intro f w2 hG hp hl;simp only[OpGoal];go_simp;exact⟨_,rfl,Ext.refl _,rfl⟩
        ·intro f w2 hG hp hl;have q45:=tE hp 0 0 rfl rfl rfl;have q46:=tE hp 1 1 rfl rfl rfl;simp only[OpGoal];go_simp;exact⟨_,rfl,Ext.refl _,by rw[HD1.out];rfl⟩
        ·intro f w2 hG hp hl;have q47:=tE hp 0 2 rfl rfl rfl;simp only[OpGoal];go_simp;exact⟨_,rfl,Ext.refl _,rfl⟩
        ·intro f w2 hG hp hl;have qg:=tellV hp 0 3 rfl rfl (fun h=>by cases h);refine og_when (p:=(PP.val (.slice (some ⟨ga,off,none⟩) m capa):PP _).p) rfl (when_t qg) ?_;intro hg0;clear qg;simp only[OpGoal];go_simp;exact⟨_,rfl,Ext.refl _,rfl⟩
        ·intro f w2 hG hp hl;have qg:=tellV hp 0 3 rfl rfl (fun h=>by cases h);refine og_when (p:=(PP.val (.int .i64 (i:Int)):PP _).p) rfl (when_t qg) ?_;intro hg0;clear qg;simp only[OpGoal];go_simp;exact⟨_,rfl,Ext.refl _,rfl⟩
        ·intro f w2 hG hp hl;have qg:=tellV hp 2 3 rfl rfl (fun h=>by cases h);refine og_when (p:=(PP.val (.pointer (some ⟨ga,off+i*5,none⟩)):PP _).p) rfl (when_t qg) ?_;intro hg0;clear qg
         have q49:f 4= .slice (some ⟨ga,off,none⟩) m capa:=(tellV hp 0 4 rfl rfl (fun h=>by cases h)).1 hg0
         have q50:f 5= .int .i64 (i:Int):=(tellV hp 1 5 rfl rfl (fun h=>by cases h)).1 hg0
         simp only[OpGoal];go_simp;exact⟨_,rfl,Ext.refl _,rfl⟩
        ·intro f w2 hG hp hl;have qg:=tellV hp 1 3 rfl rfl (fun h=>by cases h);refine og_when (p:=(PP.val (.pointer (some ⟨ga,off+i*5,none⟩)):PP _).p) rfl (when_t qg) ?_;intro hg0;clear qg
         have q51:f 6= .pointer (some ⟨ga,off+i*5,none⟩):=(tellV hp 0 6 rfl rfl (fun h=>by cases h)).1 hg0
         simp only[OpGoal];go_simp;exact⟨_,rfl,Ext.refl _,rfl⟩
        ·intro f w2 hG hp hl;have hE:Ext wr w2:=hG;have qg:=tellV hp 1 3 rfl rfl (fun h=>by cases h);refine og_when (p:=(PP.val (.int .i64 x.1):PP _).p) rfl (when_t qg) ?_;intro hg0;clear qg
         have q52:f 7= .pointer (some ⟨ga,off+i*5,none⟩):=(tellV hp 0 7 rfl rfl (fun h=>by cases h)).1 hg0
         have hcs:=HXC.out _ (hE0.trans hE);have hc0:=hcs.1;clear hcs;simp only[OpGoal];go_simp;exact⟨_,rfl,Ext.refl _,rfl⟩
        ·intro f w2 hG hp hl;have qg:=tellV hp 0 3 rfl rfl (fun h=>by cases h);refine og_when (p:=(PP.val (.slice (some ⟨ga,off,none⟩) m capa):PP _).p) rfl (when_t qg) ?_;intro hg0;clear qg;simp only[OpGoal];go_simp;exact⟨_,rfl,Ext.refl _,rfl⟩
        ·intro f w2 hG hp hl;have qg:=tellV hp 0 3 rfl rfl (fun h=>by cases h);refine og_when (p:=(PP.val (.int .i64 (k:Int)):PP _).p) rfl (when_t qg) ?_;intro hg0;clear qg;simp only[OpGoal];go_simp;exact⟨_,rfl,Ext.refl _,rfl⟩
        ·intro f w2 hG hp hl;have qg:=tellV hp 2 3 rfl rfl (fun h=>by cases h);refine og_when (p:=(PP.val (.pointer (some ⟨ga,off+k*5,none⟩)):PP _).p) rfl (when_t qg) ?_;intro hg0;clear qg
         have q54:f 9= .slice (some ⟨ga,off,none⟩) m capa:=(tellV hp 0 9 rfl rfl (fun h=>by cases h)).1 hg0
         have q55:f 10= .int .i64 (k:Int):=(tellV hp 1 10 rfl rfl (fun h=>by cases h)).1 hg0
         simp only[OpGoal];go_simp;exact⟨_,rfl,Ext.refl _,rfl⟩
        ·intro f w2 hG hp hl;have qg:=tellV hp 1 3 rfl rfl (fun h=>by cases h);refine og_when (p:=(PP.val (.pointer (some ⟨ga,off+k*5,none⟩)):PP _).p) rfl (when_t qg) ?_;intro hg0;clear qg
         have q56:f 11= .pointer (some ⟨ga,off+k*5,none⟩):=(tellV hp 0 11 rfl rfl (fun h=>by cases h)).1 hg0
         simp only[OpGoal];go_simp;exact⟨_,rfl,Ext.refl _,rfl⟩
        ·intro f w2 hG hp hl;have hE:Ext wr w2:=hG;have qg:=tellV hp 1 3 rfl rfl (fun h=>by cases h);refine og_when (p:=(PP.val (.int .i64 y.1):PP _).p) rfl (when_t qg) ?_;intro hg0;clear qg
         have q57:f 12= .pointer (some ⟨ga,off+k*5,none⟩):=(tellV hp 0 12 rfl rfl (fun h=>by cases h)).1 hg0
         have hcs:=HYC.out _ (hE0.trans hE);have hc0:=hcs.1;clear hcs;simp only[OpGoal];go_simp;exact⟨_,rfl,Ext.refl _,rfl⟩
        ·intro f w2 hG hp hl;have qg:=tellV hp 2 3 rfl rfl (fun h=>by cases h);refine og_when (p:=(PP.val (.bool d2):PP _).p) rfl (when_t qg) ?_;intro hg0;clear qg
         have q53:f 8= .int .i64 x.1:=(tellV hp 0 8 rfl rfl (fun h=>by cases h)).1 hg0
         have q58:f 13= .int .i64 y.1:=(tellV hp 1 13 rfl rfl (fun h=>by cases h)).1 hg0
         simp only[OpGoal];go_simp;exact⟨_,rfl,Ext.refl _,by rw[HD2.out];rfl⟩
        ·intro f w2 hG hp hl;have q48:=tE hp 0 3 rfl rfl rfl;have q59:=tellV hp 1 14 rfl rfl (fun h=>by cases h);change OpGoal _ _ _ f w2 Ext _;exact og_pickA (P:=Tryz.prog) _ _ rfl rfl q48 (fun h=>q59.1 (by rw[h])) rfl
        ·intro f w2 hG hp hl;have q60:=tE hp 0 15 rfl rfl rfl;simp only[OpGoal];go_simp;exact⟨_,rfl,Ext.refl _,rfl⟩
        ·intro f w2 hG hp hl;have qg:=tellV hp 0 16 rfl rfl (fun h=>by cases h);refine og_when (p:=(PP.val (.slice (some ⟨ga,off,none⟩) m capa):PP _).p) rfl (when_t qg) ?_;intro hg0;clear qg;simp only[OpGoal];go_simp;exact⟨_,rfl,Ext.refl _,rfl⟩
        ·intro f w2 hG hp hl;have qg:=tellV hp 0 16 rfl rfl (fun h=>by cases h);refine og_when (p:=(PP.val (.int .i64 (i:Int)):PP _).p) rfl (when_t qg) ?_;intro hg0;clear qg;simp only[OpGoal];go_simp;exact⟨_,rfl,Ext.refl _,rfl⟩
        ·intro f w2 hG hp hl;have qg:=tellV hp 2 16 rfl rfl (fun h=>by cases h);refine og_when (p:=(PP.val (.pointer (some ⟨ga,off+i*5,none⟩)):PP _).p) rfl (when_t qg) ?_;intro hg0;clear qg
         have q62:f 17= .slice (some ⟨ga,off,none⟩) m capa:=(tellV hp 0 17 rfl rfl (fun h=>by cases h)).1 hg0
         have q63:f 18= .int .i64 (i:Int):=(tellV hp 1 18 rfl rfl (fun h=>by cases h)).1 hg0
         simp only[OpGoal];go_simp;exact⟨_,rfl,Ext.refl _,rfl⟩
        ·intro f w2 hG hp hl;have qg:=tellV hp 1 16 rfl rfl (fun h=>by cases h);refine og_when (p:=(PP.val (.pointer (some ⟨ga,off+i*5+1,none⟩)):PP _).p) rfl (when_t qg) ?_;intro hg0;clear qg
         have q64:f 19= .pointer (some ⟨ga,off+i*5,none⟩):=(tellV hp 0 19 rfl rfl (fun h=>by cases h)).1 hg0
         simp only[OpGoal];go_simp;exact⟨_,rfl,Ext.refl _,rfl⟩
        ·intro f w2 hG hp hl;have hE:Ext wr w2:=hG;have qg:=tellV hp 1 16 rfl rfl (fun h=>by cases h);refine og_when (p:=(PP.val (.slice ax nx px):PP _).p) rfl (when_t qg) ?_;intro hg0;clear qg
         have q65:f 20= .pointer (some ⟨ga,off+i*5+1,none⟩):=(tellV hp 0 20 rfl rfl (fun h=>by cases h)).1 hg0
         have hcs:=HXC.out _ (hE0.trans hE);have hc1:=hcs.2;clear hcs;simp only[OpGoal];go_simp;exact⟨_,rfl,Ext.refl _,rfl⟩
        ·intro f w2 hG hp hl;have qg:=tellV hp 0 16 rfl rfl (fun h=>by cases h);refine og_when (p:=(PP.val (.slice (some ⟨ga,off,none⟩) m capa):PP _).p) rfl (when_t qg) ?_;intro hg0;clear qg;simp only[OpGoal];go_simp;exact⟨_,rfl,Ext.refl _,rfl⟩
        ·intro f w2 hG hp hl;have qg:=tellV hp 0 16 rfl rfl (fun h=>by cases h);refine og_when (p:=(PP.val (.int .i64 (k:Int)):PP _).p) rfl (when_t qg) ?_;intro hg0;clear qg;simp only[OpGoal];go_simp;exact⟨_,rfl,Ext.refl _,rfl⟩
        ·intro f w2 hG hp hl;have qg:=tellV hp 2 16 rfl rfl (fun h=>by cases h);refine og_when (p:=(PP.val (.pointer (some ⟨ga,off+k*5,none⟩)):PP _).p) rfl (when_t qg) ?_;intro hg0;clear qg
         have q67:f 22= .slice (some ⟨ga,off,none⟩) m capa:=(tellV hp 0 22 rfl rfl (fun h=>by cases h)).1 hg0
         have q68:f 23= .int .i64 (k:Int):=(tellV hp 1 23 rfl rfl (fun h=>by cases h)).1 hg0
         simp only[OpGoal];go_simp;exact⟨_,rfl,Ext.refl _,rfl⟩
        ·intro f w2 hG hp hl;have qg:=tellV hp 1 16 rfl rfl (fun h=>by cases h);refine og_when (p:=(PP.val (.pointer (some ⟨ga,off+k*5+1,none⟩)):PP _).p) rfl (when_t qg) ?_;intro hg0;clear qg
         have q69:f 24= .pointer (some ⟨ga,off+k*5,none⟩):=(tellV hp 0 24 rfl rfl (fun h=>by cases h)).1 hg0
         simp only[OpGoal];go_simp;exact⟨_,rfl,Ext.refl _,rfl⟩
        ·intro f w2 hG hp hl;have hE:Ext wr w2:=hG;have qg:=tellV hp 1 16 rfl rfl (fun h=>by cases h);refine og_when (p:=(PP.val (.slice ay ny py):PP _).p) rfl (when_t qg) ?_;intro hg0;clear qg
         have q70:f 25= .pointer (some ⟨ga,off+k*5+1,none⟩):=(tellV hp 0 25 rfl rfl (fun h=>by cases h)).1 hg0
         have hcs:=HYC.out _ (hE0.trans hE);have hc1:=hcs.2;clear hcs;simp only[OpGoal];go_simp;exact⟨_,rfl,Ext.refl _,rfl⟩
        ·intro f w2 hG hp hl;have hE:Ext wr w2:=hG;have qg:=tellV hp 2 16 rfl rfl (fun h=>by cases h);refine og_when (p:=(PP.val (.bool d3):PP _).p) rfl (when_t qg) ?_;intro hg0;clear qg
         have q66:f 21= .slice ax nx px:=(tellV hp 0 21 rfl rfl (fun h=>by cases h)).1 hg0
         have q71:f 26= .slice ay ny py:=(tellV hp 1 26 rfl rfl (fun h=>by cases h)).1 hg0
         change OpGoal _ _ _ f w2 Ext _;refine oC #[f 21,f 26] Tryz.func49 rfl rfl ?_;rw[q66,q71];refine(vsame_calls _ _ (fmV x.2.1) (fmV y.2.1) _ (HXT.out.ext (hE0.trans hE)) (HYT.out.ext (hE0.trans hE))).mono ?_;rintro e w' ⟨rfl,h2⟩
         exact⟨_,rfl,h2,by rw[HD3.out]<;>rfl⟩
        ·intro f w2 hG hp hl;have q61:=tE hp 0 16 rfl rfl rfl;have q72:=tellV hp 1 27 rfl rfl (fun h=>by cases h);change OpGoal _ _ _ f w2 Ext _;exact og_pickA (P:=Tryz.prog) _ _ rfl rfl q61 (fun h=>q72.1 (by rw[h])) rfl
       ·intro f wq hG hp;have hE:Ext wr wq:=ChgS.nil hG
        have q73:f 28= .bool (((d1&&d2))&&d3):=endV hp 28 (by decide) rfl (fun h=>by cases h)
        try simp only[q73]
        clear hp;have hEq:=hE0.trans hG.nil;rw[HNO.out];go_wp2;go_roundw
        case rel=>exact ⟨k+1,by omega,congrArg (Value.int .i64) (by omega),hEq⟩
        case measure=>simp [intOf];omega
  ·have hlt:(i:Int)<(n:Int):=by omega
   obtain⟨c,hx⟩:∃x,cl[i]? =some x:=⟨_,List.getElem?_eq_getElem (by rw[←HN.out];exact hin)⟩;obtain⟨g1,off,rfl,ay,ny,py,bby,a1y,n1y,c1y,a2y,n2y,c2y, -, -,hcell,hTL,hRX⟩:=HAT.out i _ hx;obtain⟨hc0,hc1,hc2,hc3,hc4⟩:=hcell wr (E2.trans hE0);obtain⟨hCi,hcr⟩:=HCR.out i c hx;have HCI:=Lib.hid hCi;have HCE:=Lib.hid (show∀(w':World),Ext w w'→CnR 6 w' (.agg #[.int .i64 c.1,.slice ay ny py,.bool bby,.slice a1y n1y c1y,.slice a2y n2y c2y]) (ratC c)from fun w' h=>hcr w' _ ⟨_,_,_,_,_,_,_,_,_,_,rfl,hTL.ext h,hRX.ext h⟩);have hcl30:=HCLN.out _ (List.mem_of_getElem? hCi);have hfl:(folP C i).length≤1000:=Nat.le_trans (folP_size C i) (by omega);clear hcell hx hTL hRX hcr hCi;obtain⟨wa,hwa,ea,Ba,sa⟩:=alloc1 wr #[.int .i64 c.1,.slice ay ny py,.bool bby,.slice a1y n1y c1y,.slice a2y n2y c2y] 36;have Ea:=hE0.trans ea;have hba:=Ba;have hq0:=hba.cell 0;have hq1:=hba.cell 1;have hq2:=hba.cell 2;have hq3:=hba.cell 3;have hq4:=hba.cell 4;rw[hwa]at hq0 hq1 hq2 hq3 hq4;go_wp2_with fail;rw[←hwa];refine(padd_calls w2.heap.size 6 210 30 g _ (folP C i) (ratC c) wa (hP.out.ext ea) (HCE.out _ (E2.trans Ea)) Ea.size hcl30 (folP_len HCLN.out i) hfl (by omega) (by omega) (by omega) (by omega) (by omega)).mono ?_;rintro e wb ⟨rfl,pb,xb⟩;have PB:=Lib.hid (show PoolAt w2.heap.size 420 wb g (folP C (i+1))from by rw[folP_succ HCI.out];exact pb);have EB:=xb w2 Ea (Nat.le_refl _);clear pb xb hc0 hc1 hc2 hc3 hc4 hq0 hq1 hq2 hq3 hq4 hba hwa Ba hP
   go_wp2;go_roundw
   case rel=>exact ⟨i+1,by omega,congrArg (Value.int .i64) (by omega),PB,EB⟩
   case measure=>simp [intOf];omega
end Go.Proofs.YtokfaggcojokgaaGreat
