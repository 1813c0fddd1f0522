/-
 A problem's constraints (model.Constraints).
-/
import Derived.Test.YtbmnlaepfckmkaaGreatMdfZ
import Derived.Test.YtbmnlaepfckmkaaGreatCnhZ
namespace Go.Proofs.YtbmnlaepfckmkaaGreat
set_option maxRecDepth 100000
set_option maxHeartbeats 1000000
open Go.RowKit
set_option linter.unusedVariables false
set_option linter.unusedSimpArgs false
def conR(N:Nat)(rows:List RwR)(i:Nat):List CR:=(rows.take i).flatMap fun r=>toldS r.1 true (ltV N r.2)
theorem conR_succ{N:Nat}{rows:List RwR}{i:Nat}{r:RwR}(h:rows[i]? =some r):conR N rows (i+1)=conR N rows i++toldS r.1 true (ltV N r.2):=by
 unfold conR;rw[take_next h,List.flatMap_append]
 simp
def oneT(i:Nat):List (Int×Rat):=[((i:Int),((1:Int):Rat))]
def vrD:VrR:=(false,(false,false,0,0),0)
def conV(vs:List VrR)(i:Nat):List CR:=(List.range i).flatMap fun j=>toldS (vs.getD j vrD).2.1 false (oneT j)
theorem conV_succ{vs:List VrR}{i:Nat}{v:VrR}(h:vs[i]? =some v):conV vs (i+1)=conV vs i++toldS v.2.1 false (oneT i):=by
 unfold conV;rw[List.range_succ,List.flatMap_append,List.flatMap_singleton,List.getD_eq_getElem?_getD,h]
 rfl
def conP(p:PbR):List CR:=conR p.2.length p.1 p.1.length++conV p.2 p.2.length
theorem told_len(s:SpR)(t:Bool)(l:List (Int×Rat)):(toldS s t l).length≤2:=by
 unfold toldS
 split
 ·simp
 ·rw[List.length_append]
  split<;>split<;>simp
theorem conR_len(N:Nat)(rows:List RwR):∀i,(conR N rows i).length≤2*i:=by
 intro i
 induction i with
 |zero=>simp [conR]
 |succ i ih=>
  cases h:rows[i]? with
  |none=>
   have:rows.length≤i:=List.getElem?_eq_none_iff.1 h
   unfold conR at ih ⊢;rw[List.take_of_length_le (by omega)];rw[List.take_of_length_le this]at ih
   omega
  |some r=>
   rw[conR_succ h,List.length_append]
   have:=told_len r.1 true (ltV N r.2)
   omega
theorem conV_len(vs:List VrR):∀i,(conV vs i).length≤2*i:=by
 intro i
 induction i with
 |zero=>simp [conV]
 |succ i ih=>
  unfold conV at ih ⊢;rw[List.range_succ,List.flatMap_append,List.flatMap_singleton,List.length_append]
  have:=told_len (vs.getD i vrD).2.1 false (oneT i)
  omega
theorem ltV_len(N:Nat)(l:List (Int×Rat)):(ltV N l).length≤l.length:=List.length_filter_le _ _
def CoJ(B K:Nat)(w:World)(u:Value)(n:Nat)(cs:List CR):Prop:=n=cs.length∧CoL B K w u cs
theorem CoL.ge{B K:Nat}{w:World}{v:Value}{cs:List CR}(h:CoL B K w v cs):∀g,v.ownBlock=some g→B≤g:=by
 obtain⟨vs,h1, -⟩:=h;exact h1.ge
set_option maxHeartbeats 2000000 in
theorem mcons_calls(k K NN:Nat)(v:Value)(p:PbR)(w:World)(hp:PbV k w v p)(hNN:∀r∈p.1,r.2.length≤NN)(hN1:1≤NN)(hNb:NN≤1000000)(hK:(NN+1)*(k+1)≤K)(hK2:K≤34359738000)(hk1:1≤k)(hr1:p.1.length≤100000)(hv1:p.2.length≤100000):
  Calls Tryz.prog 18 #[v] w fun e w'=>∃v',e= .returned v'∧CoL (w.heap.size+1) K w' v' (conP p)∧Ext w w':=by
 obtain⟨rows,vars⟩:=p;obtain⟨n0,n1,ra,rn,rc,va,vn,vc,rfl,hr,hvv⟩:=hp;obtain⟨ra',n,rc',hrn,hre, -,hatr⟩:=hr.at;simp only[Value.slice.injEq]at hre;obtain⟨rfl,rfl,rfl⟩:=hre;obtain⟨va',n,vc',hn,hve,hn1,hatv⟩:=hvv.at;simp only[Value.slice.injEq]at hve;obtain⟨rfl,rfl,rfl⟩:=hve
 simp only at hrn hn hatr hatv hNN hr1 hv1
 have Hn:=Lib.hid hn;have Hrn:=Lib.hid hrn;have HAV:=Lib.hid hatv;have HAR:=Lib.hid hatr;have HNN:=Lib.hid hNN;have HK:=Lib.hid hK;rw[←hrn]at hr1;rw[←hn]at hv1;have hkk:k+1≤K:=Nat.le_trans (Nat.le_mul_of_pos_left _ (by omega)) hK
 have HKL:Hid (∀m:Nat,m≤NN→(m+1)*(k+1)≤K):=Lib.hid fun m hm=>Nat.le_trans (Nat.mul_le_mul_right _ (by omega)) hK
 clear hr hvv hrn hn hatr hatv hNN hK hn1;obtain⟨w1,hw1,e1,b1_,s1⟩:=alloc1 w #[.string n0,.string n1,.slice ra rn rc,.slice va vn vc] 25
 have hs1:w1.heap.size=w.heap.size+1:=s1
 have hmf:∀(fn:Fn) (first cap:Array Value) (w:World),(Instr.makeFunc fn first cap).run Tryz.prog w= .ok (.func fn first cap) w:=fun _ _ _ _=>rfl
 go_enter Tryz.func18,Tryz.ntmps18
 go_wp2_with fail;rw[←hw1]
 go_loopw [2,11] (fun s2 s11 wr=>∃(i n:Nat) (ado:Option Addr) (capo:Nat),i≤rn∧s11= .int .i64 (i:Int)∧s2= .slice ado n capo∧Hid (CoJ w1.heap.size K wr (.slice ado n capo) n (conR vn rows i))∧Ext w1 wr) (fun _ s11 _=>((rn:Int) - intOf s11).toNat)
 case atStart=>exact ⟨0,0,none,0,Nat.zero_le _,rfl,rfl,Lib.hid ⟨rfl,OL.nil _ _ _ _ _⟩,Ext.refl _⟩
 case round=>
  obtain⟨i,n,ado,capo,hi,rfl,rfl,hH,hE0⟩:=hrel
  rcases Nat.eq_or_lt_of_le hi with hin |hin
  ·have hlt:¬((i:Int)<(rn:Int)):=by omega
   have hb:=b1_.ext hE0;have ha0:=hb.cell 0;have ha1:=hb.cell 1;have ha2:=hb.cell 2;have ha3:=hb.cell 3;have HN0:=hH.out.1;have HL0:=Lib.hid hH.out.2;obtain⟨c0,hc0⟩:∃c0,c0=conR vn rows rn:=⟨_,rfl⟩;rw[hin,←hc0]at HL0 HN0;have HC0:=Lib.hid hc0
   have hcl0:c0.length≤2*rn:=by rw[hc0];exact conR_len _ _ _
   have E0:=Lib.hid hE0;subst HN0;clear hb hH hin hi hE0 hc0 hw1;go_wp2_with fail
   go_loopw [2,30] (fun s2 s30 wr=>∃(i n:Nat) (ado:Option Addr) (capo:Nat),i≤vn∧s30= .int .i64 (i:Int)∧s2= .slice ado n capo∧Hid (CoJ w1.heap.size K wr (.slice ado n capo) n (c0++conV vars i))∧Ext w1 wr) (fun _ s30 _=>((vn:Int) - intOf s30).toNat)
   case atStart=>exact ⟨0,c0.length,ado,capo,Nat.zero_le _,rfl,rfl,Lib.hid ⟨by simp[conV],by simpa[conV]using HL0.out⟩,E0.out⟩
   clear HL0 ha0 ha1 ha2 ha3 E0
   case round=>
    obtain⟨i,n,ado,capo,hi,rfl,rfl,hH,hE0⟩:=hrel
    rcases Nat.eq_or_lt_of_le hi with hin |hin
    ·have hlt:¬((i:Int)<(vn:Int)):=by omega
     have HF:=Lib.hid (show CoL (w.heap.size+1) K wr (.slice ado n capo) (conP (rows,vars))from by
      have h1:=hH.out.2;rw[hs1,hin,HC0.out]at h1;unfold conP
      show CoL _ _ _ _ (conR vars.length rows rows.length++conV vars vars.length)
      rw[←Hn.out,←Hrn.out]
      exact h1)
     clear hH;go_wp2;go_ret;exact⟨_,rfl,HF.out,e1.trans hE0⟩
    ·have hlt:(i:Int)<(vn:Int):=by omega
     obtain⟨y,hy⟩:∃y,vars[i]? =some y:=⟨_,List.getElem?_eq_getElem (by rw[←Hn.out];exact hin)⟩;obtain⟨g0,off,rfl,nm,l,h,c,hcell,hS, -⟩:=HAV.out i y hy;obtain⟨hc0,hc1,hc2,hc3,hc4,hc5,hc6,hc7,hc8,hc9,hc10,hc11,hc12⟩:=hcell wr (e1.trans hE0);have HCS:=Lib.hid (conV_succ hy);obtain⟨wl,hwl,el,BV,sl⟩:=alloc1 wr #[.string nm,.bool y.1,.bool y.2.1.1,.bool y.2.1.2.1,.bool l.b,.slice l.a1 l.n1 l.c1,.slice l.a2 l.n2 l.c2,.bool h.b,.slice h.a1 h.n1 h.c1,.slice h.a2 h.n2 h.c2,.bool c.b,.slice c.a1 c.n1 c.c1,.slice c.a2 c.n2 c.c2] 43;have hEl:=hE0.trans el;have HS:=Lib.hid (hS.ext (e1.trans hEl));obtain⟨gv,hgv⟩:∃gv,gv=wr.heap.size:=⟨_,rfl⟩;rw[←hgv]at BV;have hwrs:=hE0.size;have hgvl:=BV.lt;have hwls:=el.size;have hncs:=hH.out.1;have hb1:=conV_len vars i;have hb2:=told_len y.2.1 false (oneT i);obtain⟨ds,hds⟩:∃ds,ds=toldS y.2.1 false (oneT i):=⟨_,rfl⟩;rw[←hds]at hb2;have HDS:=Lib.hid hds;obtain⟨cs,hcs⟩:∃cs,cs=c0++conV vars i:=⟨_,rfl⟩
     have hcl:cs.length≤2*rn+2*i:=by rw[hcs,List.length_append];omega
     have HJL:Hid (CoL w1.heap.size K wl (.slice ado n capo) cs):=Lib.hid (by rw[hcs];exact hH.out.2.ext el);rw[←hcs]at hncs;have HCC:=Lib.hid hcs;subst hncs;have hZ1:szQ ((1:Int):Rat)≤k:=Nat.le_trans szQ_int1 hk1;have HZ1:=Lib.hid hZ1;have HKK:Hid (((oneT i).length+1)*(k+1)≤K):=Lib.hid (HKL.out (oneT i).length hN1)
     have lim:68719476736≤LIM:=by rw[LIM_eq];omega
     obtain⟨gA,hgAl,hgAB,hgr,hgk⟩:∃gA,gA<wl.heap.size∧w1.heap.size≤gA∧(∀wa wb:World,wa.grownBy wb (Value.slice ado cs.length capo).ownBlock→Chg gA wa wb)∧True:=by
      cases hob:(Value.slice ado cs.length capo).ownBlock with
      |none=>exact ⟨gv,hgvl,by omega,fun wa wb h=>Ext.chg gv h,trivial⟩
      |some g=>
       obtain⟨vs,hLS, -⟩:=HJL.out;obtain⟨_,_, -, -, -,h4⟩:=hLS.opn;obtain⟨-,h6,h7, -⟩:=h4 g hob;exact⟨g,h7,h6,fun wa wb h=>h,trivial⟩
     have HGR:=Lib.hid hgr;clear hcell hS hy hds hcs hH hgr hgk hb1;go_wp2_with fail;rw[←hwl,←hgv];clear hc0 hc1 hc2 hc3 hc4 hc5 hc6 hc7 hc8 hc9 hc10 hc11 hc12 hwl hgv
     refine wp_region_one gA 8 9 (fun u b=>CoL w1.heap.size K b u (cs++ds)) [PP.val (.slice ado cs.length capo),PP.val (.int .i64 (i:Int)),PP.frQ ((1:Int):Rat),PP.frTm (i:Int) ((1:Int):Rat),PP.oneT (i:Int) ((1:Int):Rat),PP.val (.agg #[.string nm,.bool y.1,.bool y.2.1.1,.bool y.2.1.2.1,.bool l.b,.slice l.a1 l.n1 l.c1,.slice l.a2 l.n2 l.c2,.bool h.b,.slice h.a1 h.n1 h.c1,.slice h.a2 h.n2 h.c2,.bool c.b,.slice c.a1 c.n1 c.c1,.slice c.a2 c.n2 c.c2]),PP.val (.agg #[.bool y.2.1.1,.bool y.2.1.2.1,.bool l.b,.slice l.a1 l.n1 l.c1,.slice l.a2 l.n2 l.c2,.bool h.b,.slice h.a1 h.n1 h.c1,.slice h.a2 h.n2 h.c2]),PP.toldP K ds,PP.any,PP.any] [(0,9,2)] [8,7,6,5,4,3,2,1,0] (by kernel_rfl) (by kernel_rfl) (fun f=>(by simp only[fillR,fillL,List.setIfInBounds_toArray,List.set_cons_succ,List.set_cons_zero,Nat.reduceAdd];rfl)) (by decide) (hgAl) (fun u w1 w2 h hp=>hp.ext h) (by intro p hp;simp only[List.mem_cons,List.not_mem_nil,or_false]at hp;rcases hp with rfl |rfl |rfl |rfl |rfl |rfl |rfl |rfl |rfl |rfl<;>rfl) (fun _ _=>trivial) ?_ ?_ (by decide)
     ·refine⟨?_,?_,?_,?_,?_,?_,?_,?_,?_,?_,trivial⟩
      ·intro f w7 hG hp hl
       have l2:f 9= .slice ado cs.length capo:=hl.1 rfl
       simp only[OpGoal];go_simp;exact⟨_,rfl,Ext.refl _,rfl⟩
      ·intro f w7 hG hp hl;simp only[OpGoal];go_simp;exact⟨_,rfl,Ext.refl _,rfl⟩
      ·intro f w7 hG hp hl;have hE:Ext wl w7:=hG;have hS:=hE.size;change OpGoal _ _ _ f w7 Ext _;refine oC #[.int .i64 1] Tryz.func83 rfl rfl ?_;refine(rwhole_calls 1 _ (by omega) (by omega)).mono ?_;rintro e w' ⟨v',rfl,h1,h2⟩;exact⟨v',rfl,h2,h1.mono hS⟩
      ·intro f w7 hG hp hl
       have q36:f 1= .int .i64 (i:Int):=tellO hp 0 1 rfl rfl
       have q37:=tellO hp 1 2 rfl rfl;obtain⟨tb,ta1,tn1,tc1,ta2,tn2,tc2,tv,tq⟩:=FrQ.opn q37;change OpGoal _ _ _ f w7 Ext _;simp only[OpGoal];go_simp;exact⟨_,rfl,Ext.refl _,⟨(i:Int),tb,ta1,tn1,tc1,ta2,tn2,tc2⟩,rfl,rfl,tq⟩
      ·intro f w7 hG hp hl;have hE:Ext wl w7:=hG;have hS:=hE.size;have q38:=tellO hp 0 3 rfl rfl;obtain⟨tt,tv,tc,tq⟩:=q38;change OpGoal _ _ _ f w7 Ext _;exact og_buildSlice (P:=Tryz.prog) 31 95 1 4 _ [tmv tt] rfl rfl Tryz.underlying31 (by kernel_rfl) (by kernel_rfl) (by simp only[Act.eval];exact congrArg (fun z=> [(0,z)]) tv) rfl (by omega) (by omega) (by omega) (strN_tmv [tt]).size (fun w' he hb=>⟨_,tt,hS,rfl,hb,tc,tq.ext he⟩)
      ·intro f w7 hG hp hl;have hE:Ext wl w7:=hG;change OpGoal _ _ _ f w7 Ext _;exact og_load (P:=Tryz.prog) _ _ gv _ _ _ rfl rfl rfl (BV.ext hE) Tryz.underlying43 rfl (by kernel_rfl) rfl
      ·intro f w7 hG hp hl
       have q40:f 5= .agg #[.string nm,.bool y.1,.bool y.2.1.1,.bool y.2.1.2.1,.bool l.b,.slice l.a1 l.n1 l.c1,.slice l.a2 l.n2 l.c2,.bool h.b,.slice h.a1 h.n1 h.c1,.slice h.a2 h.n2 h.c2,.bool c.b,.slice c.a1 c.n1 c.c1,.slice c.a2 c.n2 c.c2]:=tellO hp 0 5 rfl rfl
       change OpGoal _ _ _ f w7 Ext _;refine oC #[f 5] Tryz.func84 rfl rfl ?_;rw[q40];refine(ofvar_calls nm l h c y.2.1.1 y.2.1.2.1 y.1 _).mono ?_;rintro e w' ⟨rfl,h2⟩;exact⟨_,rfl,h2,rfl⟩
      ·intro f w7 hG hp hl;have hE:Ext wl w7:=hG;have hS:=hE.size;have q39:=tellO hp 0 4 rfl rfl
       have q41:f 6= .agg #[.bool y.2.1.1,.bool y.2.1.2.1,.bool l.b,.slice l.a1 l.n1 l.c1,.slice l.a2 l.n2 l.c2,.bool h.b,.slice h.a1 h.n1 h.c1,.slice h.a2 h.n2 h.c2]:=tellO hp 1 6 rfl rfl
       change OpGoal _ _ _ f w7 Ext _;refine oC #[f 4,f 6,.bool false] Tryz.func81 rfl rfl ?_;rw[q41];have hTL:=oneT_tl (k:=k) q39 HZ1.out (by omega);obtain⟨gq,tq, -,hvq, -⟩:=q39;rw[hvq]at hTL ⊢;refine(told_calls k K l h y.2.1 false (oneT i) _ (HS.out.ext hE) hTL (by simp[oneT]) (Nat.le_trans HKK.out hK2) HKK.out).mono ?_;rintro e w' ⟨v',rfl,h1,h2,h3⟩;exact⟨v',rfl,h3,w7.heap.size+3,by omega,by rw[HDS.out];exact h1,by rw[HDS.out];exact h2⟩
      ·intro f w7 hG hp hl;have hE:Ext wl w7:=hG;have hS:=hE.size
       have q35:f 0= .slice ado cs.length capo:=tellO hp 0 0 rfl rfl
       have q42:=tellO hp 1 7 rfl rfl
       have qL:f 0= .slice ado cs.length capo:=tellO hp 0 0 rfl rfl
       obtain⟨bb,hbb,hcu,hni⟩:=tellO hp 1 7 rfl rfl;change OpGoal _ _ _ f w7 (Chg gA) _;exact og_append_Co rfl _ _ rfl w1.heap.size bb K _ _ cs ds qL (HJL.out.ext hE) rfl hcu hni (by omega) (by omega) (by omega) (fun wb h=>HGR.out _ _ h) (fun v' w' h=>h)
      ·intro f w7 hG hp hl;have hS:wl.heap.size≤w7.heap.size:=Chg.size hG;change OpGoal _ _ _ f w7 Ext _;simp only[OpGoal];go_simp;exact⟨_,rfl,Ext.refl _,rfl⟩
     ·intro f w7 hC hF1 hmv hp;clear hp;have hE7:Ext w1 w7:=hEl.step hC hgAB
      have hFv:∃ad cap,f 8= .slice ad (cs.length+ds.length) cap:=by
       obtain⟨vs,hLS,hvl, -⟩:=hF1;obtain⟨ad,cap,h⟩:=ownsRow_lenP hLS.2;exact⟨ad,cap,by rw[h,hvl,List.length_append]⟩
      obtain⟨ad',cap',hfv⟩:=hFv;have hmv':=hmv (by decide);rw[hfv]at hF1 hmv';have HF1:=Lib.hid hF1
      (try rw[hmv'])
      (try rw[hfv])
      clear hF1 hmv hC;go_wp2;go_roundw
      case rel=>
       refine⟨i+1,cs.length+ds.length,ad',cap',by omega,congrArg (Value.int .i64) (by omega),(by first |rfl |exact hmv' |simp_all),Lib.hid ⟨?_,?_⟩,hE7⟩
       ·rw[HCS.out,←List.append_assoc,←HCC.out,←HDS.out,List.length_append]
       ·rw[HCS.out,←List.append_assoc,←HCC.out,←HDS.out];exact HF1.out
      case measure=>simp [intOf];omega
  ·have hlt:(i:Int)<(rn:Int):=by omega
   obtain⟨y,hy⟩:∃y,rows[i]? =some y:=⟨_,List.getElem?_eq_getElem (by rw[←Hrn.out];exact hin)⟩;obtain⟨g0,off,rfl,nm,l,h,ta,tn,tc,hcell,hS,hT⟩:=HAR.out i y hy;obtain⟨hc0,hc1,hc2,hc3,hc4,hc5,hc6,hc7,hc8,hc9⟩:=hcell wr (e1.trans hE0);have HS:=Lib.hid hS;have HT:=Lib.hid hT;have HCS:=Lib.hid (conR_succ (N:=vn) hy);have HNY:=Lib.hid (HNN.out y (List.mem_of_getElem? hy));obtain⟨wl,hwl,el,BR,sl⟩:=alloc1 wr #[.string nm,.bool y.1.1,.bool y.1.2.1,.bool l.b,.slice l.a1 l.n1 l.c1,.slice l.a2 l.n2 l.c2,.bool h.b,.slice h.a1 h.n1 h.c1,.slice h.a2 h.n2 h.c2,.slice ta tn tc] 97;have hEl:=hE0.trans el;have hbr:=BR;have ha0:=hbr.cell 0;have ha1:=hbr.cell 1;have ha2:=hbr.cell 2;have ha3:=hbr.cell 3;have ha4:=hbr.cell 4;have ha5:=hbr.cell 5;have ha6:=hbr.cell 6;have ha7:=hbr.cell 7;have ha8:=hbr.cell 8;have ha9:=hbr.cell 9;rw[hwl]at ha0 ha1 ha2 ha3 ha4 ha5 ha6 ha7 ha8 ha9;clear hcell hS hT hy hbr;go_wp2_with fail;rw[←hwl];have hwrs:=hE0.size;obtain⟨gr,hgr⟩:∃gr,gr=wr.heap.size:=⟨_,rfl⟩;rw[←hgr]at BR ⊢;clear hc0 hc1 hc2 hc3 hc4 hc5 hc6 hc7 hc8 hc9 ha0 ha1 ha2 ha3 ha4 ha5 ha6 ha7 ha8 ha9 hwl hgr hw1;have E1l:=e1.trans hEl;refine(vclone_calls k _ y.2 wl (HT.out.ext E1l) (by have:=HNY.out;omega)).mono ?_;rintro e w2 ⟨v2,ps,rfl,hls,hps,hir,e2⟩;have HLS:=Lib.hid hls;have HPS:=Lib.hid (And.intro hps hir);have BP:=b1_.ext (hEl.trans e2)
   have hpl:ps.length≤34359738368:=by
    have h1:(lP ps).length=ps.length:=by unfold lP;simp
    rw[hps]at h1
    have:=HNY.out
    omega
   clear hls hps hir;go_wp2_with fail;refine(mdel_calls wl.heap.size w.heap.size vn _ ps w2 HLS.out hpl BP).mono ?_;rintro e w3 ⟨v3,rfl,hl3,hg3⟩;have E3:Ext wl w3:=e2.stepG hg3 HLS.out.ge
   have HL3:Hid (TL k w3 v3 (ltV vn y.2)):=Lib.hid (by
    have h1:=LS.tl (k:=k) hl3 (fun p hp=>((HPS.out.2 p (List.mem_filter.1 hp).1)).ext E3);rw[lP_ltP,HPS.out.1]at h1
    exact h1)
   clear hg3 BP hpl
   obtain⟨ta3,tn3,tc3,rfl⟩:∃a n c,v3= .slice a n c:=by
    obtain⟨ad,cap,h1, -⟩:=hl3.opn;exact⟨_,_,_,h1⟩
   have hbr:=BR.ext E3;have ha0:=hbr.cell 0;have ha1:=hbr.cell 1;have ha2:=hbr.cell 2;have ha3:=hbr.cell 3;have ha4:=hbr.cell 4;have ha5:=hbr.cell 5;have ha6:=hbr.cell 6;have ha7:=hbr.cell 7;have ha8:=hbr.cell 8;have ha9:=hbr.cell 9;clear hl3 hbr;go_wp2_with fail;refine(ofrow_calls nm l h ta tn tc y.1.1 y.1.2.1 w3).mono ?_;rintro e w4 ⟨rfl,e4⟩;have E4:=E3.trans e4;have E14:=E1l.trans E4;have hlt3:(ltV vn y.2).length≤NN:=Nat.le_trans (ltV_len _ _) HNY.out;have HKK:=Lib.hid (HKL.out _ hlt3);clear ha0 ha1 ha2 ha3 ha4 ha5 ha6 ha7 ha8 ha9;go_wp2_with fail;refine(told_calls k K l h y.1 true (ltV vn y.2) w4 (HS.out.ext E14) (HL3.out.ext e4) (by omega) (by have:=HKK.out;omega) HKK.out).mono ?_;rintro e w5 ⟨v5,rfl,hL5,hnil,e5⟩;have hE5:=hEl.trans (E4.trans e5);have HL5:=Lib.hid hL5;have HNI:=Lib.hid hnil;have HJ5:Hid (CoL w1.heap.size K w5 (.slice ado n capo) (conR vn rows i)):=Lib.hid (hH.out.2.ext (el.trans (E4.trans e5)));have hncs:=hH.out.1;have hb1:=conR_len vn rows i;have hb2:=told_len y.1 true (ltV vn y.2);have hw5s:=hE5.size;have hw14:=(hEl.trans E4).size;obtain⟨ds,hds⟩:∃ds,ds=toldS y.1 true (ltV vn y.2):=⟨_,rfl⟩;rw[←hds]at HL5 HNI hb2;have HDS:=Lib.hid hds;obtain⟨cs,hcs⟩:∃cs,cs=conR vn rows i:=⟨_,rfl⟩;rw[←hcs]at HJ5 hncs hb1;have HCC:=Lib.hid hcs;subst hncs;clear hL5 hnil hds hcs hH
   go_wp2_with (first
    | (at_builtin;go_loud (refine wpList_append_Co rfl _ _ rfl w1.heap.size (w4.heap.size+3) K _ _ cs ds rfl HJ5.out rfl HL5.out HNI.out (by omega) (by omega) (by omega) ?_);intro ad' cap' w7 hL7 hg7)
    |fail)
   go_roundw
   case rel=>
    have hE7:Ext w1 w7:=hE5.stepG hg7 HJ5.out.ge;refine⟨i+1,cs.length+ds.length,ad',cap',by omega,congrArg (Value.int .i64) (by omega),rfl,Lib.hid ⟨?_,?_⟩,hE7⟩
    ·rw[HCS.out,←HCC.out,←HDS.out,List.length_append]
    ·rw[HCS.out,←HCC.out,←HDS.out];exact hL7
   case measure=>simp [intOf];omega
end Go.Proofs.YtbmnlaepfckmkaaGreat
