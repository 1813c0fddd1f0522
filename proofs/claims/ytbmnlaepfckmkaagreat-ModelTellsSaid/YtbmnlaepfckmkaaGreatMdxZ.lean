/-
 The law ModelTells.
-/
import Derived.Test.YtbmnlaepfckmkaaGreatMdqZ
import Derived.Test.YtbmnlaepfckmkaaGreatMdmZ
import Derived.Test.YtbmnlaepfckmkaaGreatMdjZ
namespace Go.Proofs.YtbmnlaepfckmkaaGreat
set_option maxRecDepth 100000
set_option maxHeartbeats 1000000
open Go.RowKit
set_option linter.unusedVariables false
set_option linter.unusedSimpArgs false
def PP.coP{S:Nat}(K:Nat)(cs:List CR):PP S:=⟨false,fun u w=>∃b,S≤b∧CoL b K w u cs,fun _ _ _ h hp=>(let ⟨b,h0,h1⟩:=hp;⟨b,h0,h1.ext h⟩),fun _ _ hg _ _ _ h hp=>(let ⟨b,h0,h1⟩:=hp;⟨b,h0,h1.chg h (Nat.lt_of_lt_of_le hg h0)⟩)⟩
def PP.blx{S:Nat}(bs:List Bool):PP S:=⟨true,fun u w=>BL w u bs,fun _ _ _ h hp=>hp.ext h,fun h=>by cases h⟩
theorem CoL.cle{B K:Nat}{w:World}{v:Value}{cs:List CR}(h:CoL B K w v cs)(hK:K≤LIM):CLE w v (cs.map fmC):=SL.mapL (OL.sl h (by omega)) fun u y _ h=>h.cnE hK
theorem HurtW.weak{Q Q':Nat→Prop}{w w':World}(h:HurtW Q w w')(k:∀g,Q g→Q' g):HurtW Q' w w':=by
 obtain⟨h1,h2,h3,h4,h5⟩:=h;refine⟨h1,h2,h3,h4,fun g hg=> ?_⟩
 rcases h5 g hg with e |⟨a,b⟩
 ·exact .inl e
 ·exact .inr ⟨k g a,b⟩
theorem CoL.cells5{B K:Nat}{w:World}{v:Value}{cs:List CR}(h:CoL B K w v cs){i:Nat}{c:CR}(hi:cs[i]? =some c):∃g n cap a np p b a1 n1 c1 a2 n2 c2,v= .slice (some ⟨g,0,none⟩) n cap∧n=cs.length∧
  (∀(Q:Nat→Prop) (wz:World),HurtW Q w wz→wz.cell? ⟨g,i*5,none⟩=some (.int .i64 c.1)∧wz.cell? ⟨g,i*5+1,none⟩=some (.slice a np p)∧wz.cell? ⟨g,i*5+2,none⟩=some (.bool b)∧wz.cell? ⟨g,i*5+3,none⟩=some (.slice a1 n1 c1)∧wz.cell? ⟨g,i*5+4,none⟩=some (.slice a2 n2 c2))∧
  CnO B K w (.agg #[.int .i64 c.1,.slice a np p,.bool b,.slice a1 n1 c1,.slice a2 n2 c2]) c:=by
 obtain⟨vs,h1,h2,h3⟩:=h
 have hlt:i<vs.length:=by have:=(List.getElem?_eq_some_iff.1 hi).1;omega
 obtain⟨u,hu⟩:∃u,vs[i]? =some u:=⟨_,List.getElem?_eq_getElem hlt⟩;have hO:=h3 i u c hu hi;have hO':=hO;obtain⟨a,np,p,b,a1,n1,c1,a2,n2,c2,rfl, -⟩:=hO';obtain⟨g,cap,rest,k1,k2,k3,k4,k5,k6⟩:=h1.hold (by omega);have hl:=flatS_len h1.1.size;have hmul:=Nat.mul_le_mul_right 5 (show i+1≤vs.length by omega);rw[Nat.succ_mul]at hmul
 have hel:∀(Q:Nat→Prop) (wz:World),HurtW Q w wz→∀j x,j<5→(#[Value.int .i64 c.1,.slice a np p,.bool b,.slice a1 n1 c1,.slice a2 n2 c2]:Array Value)[j]? =some x→wz.cell? ⟨g,i*5+j,none⟩=some x:=fun Q wz hz j x hj hx=>by
  rw[(k6.hurtW hz (by decide) (by decide)).cell,List.getElem?_toArray,List.getElem?_append_left (by rw[hl];omega),flatS_get (n:=5) (by omega) h1.1.size hu j hj];exact hx
 exact⟨g,_,cap,a,np,p,b,a1,n1,c1,a2,n2,c2,k1,h2,fun Q wz hz=>⟨hel Q wz hz 0 _ (by omega) rfl,hel Q wz hz 1 _ (by omega) rfl,hel Q wz hz 2 _ (by omega) rfl,hel Q wz hz 3 _ (by omega) rfl,hel Q wz hz 4 _ (by omega) rfl⟩,hO⟩
set_option maxHeartbeats 4000000 in
theorem modelTells_calls(v:Value)(p:PbE)(w:World)(hv:PbH w v p):
  Calls Tryz.prog 3 #[v] w fun e w'=>e= .returned (.bool true)∧Ext w w':=by
 have HV:=Lib.hid hv
 have lim:(100000:Nat)≤LIM:=by rw[LIM_eq];omega
 obtain⟨⟨n0,n1⟩,rows,vars⟩:=p;obtain⟨ra,rn,rc,va,vn,vc,rfl,hr,hvv⟩:=hv;obtain⟨_,_,_,hvn,hve,hvm,hatv⟩:=hvv.at;simp only[Value.slice.injEq]at hve;obtain⟨rfl,rfl,rfl⟩:=hve;have HVN:=Lib.hid hvn;have HATV:=Lib.hid hatv;clear hr hvv hvn hatv;obtain⟨w1,hw1,e1,bP,s1⟩:=alloc1 w #[.string n0,.string n1,.slice ra rn rc,.slice va vn vc] 25
 go_enter Tryz.func3,Tryz.ntmps3
 go_wp2_with fail;rw[←hw1];refine(speaksm_calls w1).mono ?_;rintro e w2 ⟨rfl,e2⟩;have hb:=bP.ext e2;have hp0:=hb.cell 0;have hp1:=hb.cell 1;have hp2:=hb.cell 2;have hp3:=hb.cell 3;clear hw1 hb;go_wp2_with fail;have E2:=e1.trans e2;refine(greatPb_calls _ ((n0,n1),rows,vars) w2 (HV.out.ext E2)).mono ?_;rintro e w3 ⟨g,rfl,hok,e3⟩;have E3:=E2.trans e3;clear hp0 hp1 hp2 hp3
 cases g with
 |true=>
  go_wp2;go_ret;exact⟨rfl,E3⟩
 |false=>
 have HOK:=Lib.hid (hok rfl);have B3:=bP.ext (e2.trans e3);obtain⟨P,hP⟩:∃P,P=ratPb ((n0,n1),rows,vars):=⟨_,rfl⟩;have HPE:=Lib.hid (show∀(w':World) (v':Value),PbH w' v' ((n0,n1),rows,vars)→PbV 6 w' v' P from fun w' v' h=>by rw[hP];exact h.pbv HOK.out);have HPL:=Lib.hid (show P.1.length≤70∧P.2.length≤50∧P.2.length=vn by rw[hP,ratPb_len.1,ratPb_len.2];exact⟨HOK.out.1,HOK.out.2.1,HVN.out.symm⟩);have HPT:=Lib.hid (show∀r∈P.1,r.2.length≤30 by rw[hP];exact ltV_lenR HOK.out)
 have HWA:Hid (∀(i:Nat) (y:VrE),vars[i]? =some y→(whlP P)[i]? =some y.2.1.1):=Lib.hid fun i y h=>by
  rw[hP];unfold whlP ratPb;rw[List.getElem?_map,List.getElem?_map,h]
  rfl
 have hp0:=B3.cell 0;have hp1:=B3.cell 1;have hp2:=B3.cell 2;have hp3:=B3.cell 3;clear hok hP e2 e3 E2 bP;go_wp2_with fail;refine(copyPb_calls _ ((n0,n1),rows,vars) w3 (HV.out.ext E3) HOK.out).mono ?_;rintro e w4 ⟨v4,rfl,hY4,e4⟩;have HY:=Lib.hid hY4.pbh;obtain⟨rb,rm,rd,vb,vm,vd,rfl, -, -⟩:=hY4;obtain⟨wq,hwq,eq4,BQ,sq4⟩:=alloc1 w4 #[.string n0,.string n1,.slice rb rm rd,.slice vb vm vd] 25;obtain⟨gq,hgq⟩:∃g,g=w4.heap.size:=⟨_,rfl⟩;rw[←hgq]at BQ;have HIN:=Lib.hid (HY.out.ext eq4);have HPQ:=Lib.hid (show∀w',Ext wq w'→PbV 6 w' (.agg #[.string n0,.string n1,.slice rb rm rd,.slice vb vm vd]) P from fun w' h=>HPE.out w' _ (HIN.out.ext h));have E4:=Lib.hid (E3.trans (e4.trans eq4));have B4:=B3.ext (e4.trans eq4);clear hp0 hp1 hp2 hp3 HY B3 e4 eq4 E3 sq4;go_wp2_with fail;rw[←hwq,←hgq];clear hwq hgq;refine wpQ [PP.val (.agg #[.string n0,.string n1,.slice rb rm rd,.slice vb vm vd]),PP.coP 217 (conP P),PP.val (.agg #[.string n0,.string n1,.slice rb rm rd,.slice vb vm vd]),PP.tO (P.2.length*(6+1)) (objP P),PP.val (.agg #[.string n0,.string n1,.slice rb rm rd,.slice vb vm vd]),PP.blx (whlP P),PP.coP 217 (conP P),PP.tO (P.2.length*(6+1)) (objP P),PP.blx (whlP P)] [] [0,1,2,3,4,5,6,7,8] ?_ ?_
 ·refine⟨?_,?_,?_,?_,?_,?_,?_,?_,?_,trivial⟩
  ·intro f wz hG hp hl;have hE:Ext wq wz:=hG;change OpGoal _ _ _ f wz Ext _;exact og_load (P:=Tryz.prog) _ _ gq _ _ _ rfl rfl rfl (BQ.ext hE) Tryz.underlying25 rfl (by kernel_rfl) rfl
  ·intro f wz hG hp hl;have hE:Ext wq wz:=hG;have hS:=hE.size;have q15:=tE hp 0 0 rfl rfl rfl;change OpGoal _ _ _ f wz Ext _;refine oC #[f 0] Tryz.func18 rfl rfl ?_;rw[q15];refine(mcons_calls 6 217 30 _ P _ (HPQ.out _ hE) HPT.out (by omega) (by omega) (by omega) (by omega) (by omega) (by have:=HPL.out.1;omega) (by have:=HPL.out.2.1;omega)).mono ?_;rintro e w' ⟨v',rfl,h1,h2⟩;exact⟨v',rfl,h2,_,Nat.le_succ_of_le hS,h1⟩
  ·intro f wz hG hp hl;have hE:Ext wq wz:=hG;change OpGoal _ _ _ f wz Ext _;exact og_load (P:=Tryz.prog) _ _ gq _ _ _ rfl rfl rfl (BQ.ext hE) Tryz.underlying25 rfl (by kernel_rfl) rfl
  ·intro f wz hG hp hl;have hE:Ext wq wz:=hG;have hS:=hE.size;have q17:=tE hp 0 2 rfl rfl rfl;change OpGoal _ _ _ f wz Ext _;refine oC #[f 2] Tryz.func19 rfl rfl ?_;rw[q17];refine(mobj_calls 6 _ P _ (HPQ.out _ hE) (by have:=HPL.out.2.1;omega) (by have:=HPL.out.2.1;omega)).mono ?_;rintro e w' ⟨v',rfl,h1,h2⟩;exact⟨v',rfl,h2,h1.mono hS⟩
  ·intro f wz hG hp hl;have hE:Ext wq wz:=hG;change OpGoal _ _ _ f wz Ext _;exact og_load (P:=Tryz.prog) _ _ gq _ _ _ rfl rfl rfl (BQ.ext hE) Tryz.underlying25 rfl (by kernel_rfl) rfl
  ·intro f wz hG hp hl;have hE:Ext wq wz:=hG;have hS:=hE.size;have q19:=tE hp 0 4 rfl rfl rfl;change OpGoal _ _ _ f wz Ext _;refine oC #[f 4] Tryz.func20 rfl rfl ?_;rw[q19];refine(mwhole_calls 6 _ P _ (HPQ.out _ hE) (by have:=HPL.out.2.1;omega)).mono ?_;rintro e w' ⟨v',rfl,h1,h2⟩;exact⟨v',rfl,h2,bl_own h1 (by unfold whlP;rw[List.length_map])⟩
  ·intro f wz hG hp hl;have hE:Ext wq wz:=hG;have q16:=tellV hp 0 1 rfl rfl (fun _=>hE);exact⟨_,rfl,Ext.refl _,q16⟩
  ·intro f wz hG hp hl;have hE:Ext wq wz:=hG;have q18:=tellV hp 0 3 rfl rfl (fun _=>hE);exact⟨_,rfl,Ext.refl _,q18⟩
  ·intro f wz hG hp hl;have hE:Ext wq wz:=hG;have q20:=tellV hp 0 5 rfl rfl (fun _=>hE);exact⟨_,rfl,Ext.refl _,q20⟩
 ·intro f w6 hG hp;have hE:Ext wq w6:=ChgS.nil hG;have q4:=endV hp 6 (by decide) rfl (fun _=>hE);have q5:=endV hp 7 (by decide) rfl (fun _=>hE);have q6:=endV hp 8 (by decide) rfl (fun _=>hE);clear hp;obtain⟨bc,hbc,hc6⟩:=q4;obtain⟨oad,ocap,hov⟩:=TO.val q5;obtain⟨wad,m,wc,hm,hwv,hm1,hatw⟩:=q6.at;obtain⟨cad,n,ccap,hn,hcv,hn1, -⟩:=(hc6.cl (by omega)).at;rw[hov,hwv,hcv];rw[hcv]at hc6;rw[hov]at q5;have HC:=Lib.hid hc6;have HO:=Lib.hid q5;have HN:=Lib.hid hn;have HATW:=Lib.hid hatw
  have hmv:m=vn:=by rw[hm];unfold whlP;rw[List.length_map];exact HPL.out.2.2
  have h46:=Lib.hid hE;have E6:=Lib.hid (E4.out.trans hE);have B6:=B4.ext hE;have BQ6:=BQ.ext hE;have HSQ:=Lib.hid hbc;have hp0:=B6.cell 0;have hp1:=B6.cell 1;have hp2:=B6.cell 2;have hp3:=B6.cell 3;clear hc6 q5 q6 hov hwv hcv hn hatw hE B4 BQ hm hbc;subst hmv;go_wp2_with fail;refine(rconstr_calls 6 7007 _ P w6 (HPE.out _ _ (HV.out.ext E6.out)) (fun r hr=>by have:=HPT.out r hr;omega) (by omega) (by omega) (by omega) (by have:=HPL.out.1;omega) (by have:=HPL.out.2.1;omega)).mono ?_;rintro e w7 ⟨v7,rfl,c7,e7⟩;have C7:=Lib.hid c7;clear c7 hp0 hp1 hp2 hp3;go_wp2_with fail;refine(sameC_true _ _ ((conP P).map fmC) w7 ((HC.out.ext e7).cle (by omega)) (C7.out.cle (by omega))).mono ?_;rintro e w8 ⟨rfl,e8⟩;have B8:=B6.ext (e7.trans e8);have hp0:=B8.cell 0;have hp1:=B8.cell 1;have hp2:=B8.cell 2;have hp3:=B8.cell 3;have E8:=E6.out.trans (e7.trans e8);go_wp2_with fail;refine(robj_calls 6 _ P w8 (HPE.out _ _ (HV.out.ext E8)) (by have:=HPL.out.2.1;omega) (by omega)).mono ?_;rintro e w9 ⟨v9,rfl,t9,e9⟩;have T9:=Lib.hid t9;clear t9 hp0 hp1 hp2 hp3;go_wp2_with fail;refine(all_true _ _ (fmV (objP P)) w9 ((HO.out.ext (e7.trans (e8.trans e9))).tle (by have:=HPL.out.2.1;omega)) (T9.out.tle (by have:=HPL.out.2.1;omega))).mono ?_;rintro e wa ⟨rfl,ea⟩;have x6a:=e7.trans (e8.trans (e9.trans ea));have H6a:=Lib.hid x6a;have E9:=Lib.hid (E6.out.trans x6a);have Ba:=B6.ext x6a;have BQa:=BQ6.ext x6a;have hp0:=Ba.cell 0;have hp1:=Ba.cell 1
  have hp2:=Ba.cell 2;have hp3:=Ba.cell 3
  have hmm:((m:Int) !=(m:Int))=false:=by simp
  clear C7 T9 e7 e8 e9 ea E8 B8 B6 BQ6 x6a;go_wp2_with fail;clear hp0 hp1 hp2 hp3 hmm
  go_loopw [49] (fun s49 wr=>∃(i:Nat),i≤m∧s49= .int .i64 (i:Int)∧Ext wa wr) (fun s49 _=>((m:Int) - intOf s49).toNat)
  case atStart=>exact ⟨0,Nat.zero_le _,rfl,Ext.refl _⟩
  case round=>
   obtain⟨i,hi,rfl,hE0⟩:=hrel
   rcases Nat.eq_or_lt_of_le hi with hin |hin
   ·have hlt:¬((i:Int)<(m:Int)):=by omega
    have H6r:=Lib.hid (H6a.out.trans hE0);have Br:=Ba.ext hE0;have BQr:=BQa.ext hE0;have Er:=Lib.hid (E9.out.trans hE0);have HC2:=Lib.hid (HC.out.ext H6r.out);have HO2:=Lib.hid (HO.out.ext H6r.out);have h4r:=Lib.hid (h46.out.trans H6r.out);clear hi hin hE0 Ba BQa H6a E9 HATW HATV HWA HC HO;go_wp2_with fail
    go_loopw [66] (fun s66 wr2=>∃(i:Nat),i≤n∧s66= .int .i64 (i:Int)∧HurtW (fun k=>wq.heap.size≤k) wr wr2) (fun s66 _=>((n:Int) - intOf s66).toNat)
    case atStart=>exact ⟨0,Nat.zero_le _,rfl,HurtW.refl _ _⟩
    case round=>
     obtain⟨i,hi,rfl,hH⟩:=hrel
     rcases Nat.eq_or_lt_of_le hi with hin |hin
     ·have hlt:¬((i:Int)<(n:Int)):=by omega
      have HH:=Lib.hid hH;clear hH hi hin;go_wp2_with fail;refine(spoil5w_calls _ _ _ ((HO2.out.spw (Nat.le_refl _)).hurtW HH.out)).mono ?_;rintro e w10 ⟨rfl,h10⟩;have H10:=Lib.hid (HH.out.trans (h10.weak fun g hg=>hg.1));have X10:=Lib.hid (h4r.out.hurtW H10.out fun g hg=>hg);have Bt:=Br.hurtW H10.out (by decide) (by decide);have BQt:=BQr.hurtW H10.out (by decide) (by decide);have hp0:=Bt.cell 0;have hp1:=Bt.cell 1;have hp2:=Bt.cell 2;have hp3:=Bt.cell 3;have hq0:=BQt.cell 0;have hq1:=BQt.cell 1;have hq2:=BQt.cell 2;have hq3:=BQt.cell 3;clear h10 HH;go_wp2_with fail;refine(samePb_calls _ _ ((n0,n1),rows,vars) w10 (HIN.out.ext X10.out) (HV.out.ext (E4.out.trans X10.out))).mono ?_;rintro e w11 ⟨rfl,e11⟩;go_wp2;go_ret;exact⟨rfl,E4.out.trans (X10.out.trans e11)⟩
     ·have hlt:(i:Int)<(n:Int):=by omega
      obtain⟨c,hc⟩:∃x,(conP P)[i]? =some x:=⟨_,List.getElem?_eq_getElem (by rw[←HN.out];exact hin)⟩;obtain⟨g,n',cap',a,np,pp,b,a1,n1',c1,a2,n2,c2,hcv, -,hcell,hO⟩:=HC2.out.cells5 hc;simp only[Value.slice.injEq]at hcv;obtain⟨rfl,rfl,rfl⟩:=hcv;obtain⟨hc0,hc1,hc2,hc3,hc4⟩:=hcell _ _ hH;have HO5:=Lib.hid (hO.spc (Nat.le_refl _));have HH:=Lib.hid hH;clear hcell hO hc hH;go_wp2_with fail;refine(spoilCons_calls _ _ _ (HO5.out.hurtW HH.out)).mono ?_;rintro e w10 ⟨rfl,h10⟩;have H10:=HH.out.trans (h10.weak (Q':=fun k=>wq.heap.size≤k) fun g hg=>Nat.le_trans HSQ.out hg.1);clear h10 hc0 hc1 hc2 hc3 hc4;go_wp2;go_roundw
      case rel=>exact ⟨i+1,by omega,congrArg (Value.int .i64) (by omega),H10⟩
      case measure=>simp [intOf];omega
   ·have hlt:(i:Int)<(m:Int):=by omega
    obtain⟨y,hy⟩:∃y,vars[i]? =some y:=⟨_,List.getElem?_eq_getElem (by rw[←HVN.out];exact hin)⟩;obtain⟨g,off,rfl,l,h,c,hcell, -, -, -⟩:=HATV.out i y hy;obtain⟨gw,ow,rfl,hwc⟩:=HATW.out i _ (HWA.out i y hy);have HWC:=Lib.hid (fun wz (h:Ext wa wz)=>hwc wz (H6a.out.trans h));have HCL:=Lib.hid hcell;have BPr:=Ba.ext hE0;clear hcell hwc hy;go_wp2_with fail;refine wpQ [PP.val (.slice (some ⟨gw,ow,none⟩) m wc),PP.val (.int .i64 (i:Int)),PP.val (.pointer (some ⟨gw,ow+i,none⟩)),PP.val (.bool y.2.1.1),PP.val (.pointer (some ⟨w.heap.size,3,none⟩)),PP.val (.slice (some ⟨g,off,none⟩) m vc),PP.val (.int .i64 (i:Int)),PP.val (.pointer (some ⟨g,off+i*13,none⟩)),PP.val (.pointer (some ⟨g,off+i*13+1,none⟩)),PP.val (.bool y.2.1.1),PP.val (.bool false)] [] [0,1,2,3,4,5,6,7,8,9,10] ?_ ?_
    ·refine⟨?_,?_,?_,?_,?_,?_,?_,?_,?_,?_,?_,trivial⟩
     ·intro f wz hG hp hl;simp only[OpGoal];go_simp;exact⟨_,rfl,Ext.refl _,rfl⟩
     ·intro f wz hG hp hl;simp only[OpGoal];go_simp;exact⟨_,rfl,Ext.refl _,rfl⟩
     ·intro f wz hG hp hl;have q52:=tE hp 0 0 rfl rfl rfl;have q53:=tE hp 1 1 rfl rfl rfl;simp only[OpGoal];go_simp;exact⟨_,rfl,Ext.refl _,rfl⟩
     ·intro f wz hG hp hl;have hE:Ext wr wz:=hG;have q54:=tE hp 0 2 rfl rfl rfl;have hcell:=HWC.out _ (hE0.trans hE);simp only[OpGoal];go_simp;exact⟨_,rfl,Ext.refl _,rfl⟩
     ·intro f wz hG hp hl;simp only[OpGoal];go_simp;exact⟨_,rfl,Ext.refl _,rfl⟩
     ·intro f wz hG hp hl;have hE:Ext wr wz:=hG;have q56:=tE hp 0 4 rfl rfl rfl;have hcell:=(BPr.ext hE).cell 3;simp only[OpGoal];go_simp;exact⟨_,rfl,Ext.refl _,rfl⟩
     ·intro f wz hG hp hl;simp only[OpGoal];go_simp;exact⟨_,rfl,Ext.refl _,rfl⟩
     ·intro f wz hG hp hl;have q57:=tE hp 0 5 rfl rfl rfl;have q58:=tE hp 1 6 rfl rfl rfl;simp only[OpGoal];go_simp;exact⟨_,rfl,Ext.refl _,rfl⟩
     ·intro f wz hG hp hl;have q59:=tE hp 0 7 rfl rfl rfl;simp only[OpGoal];go_simp;exact⟨_,rfl,Ext.refl _,rfl⟩
     ·intro f wz hG hp hl;have hE:Ext wr wz:=hG;have q60:=tE hp 0 8 rfl rfl rfl;have hcell:=(HCL.out _ (E9.out.trans (hE0.trans hE))).2.1;simp only[OpGoal];go_simp;exact⟨_,rfl,Ext.refl _,rfl⟩
     ·intro f wz hG hp hl;have q55:=tE hp 0 3 rfl rfl rfl;have q61:=tE hp 1 9 rfl rfl rfl;simp only[OpGoal];go_simp;exact⟨_,rfl,Ext.refl _,rfl⟩
    ·intro f wy hG hp;have hE:Ext wr wy:=ChgS.nil hG
     have q62:f 10= .bool false:=endV hp 10 (by decide) rfl (fun h=>by cases h)
     try simp only[q62]
     clear hp;have hEq:=hE0.trans hE;go_wp2;go_roundw
     case rel=>exact ⟨i+1,by omega,congrArg (Value.int .i64) (by omega),hEq⟩
     case measure=>simp [intOf];omega
end Go.Proofs.YtbmnlaepfckmkaaGreat
