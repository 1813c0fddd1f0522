/-
 A problem's constraints (model.Constraints).
-/
import Derived.Test.YtbmnlaepfckmkaaGreatMdfZ
import Derived.Test.YtbmnlaepfckmkaaGreatCnhZ
namespace Go.Proofs.YtbmnlaepfckmkaaGreat
set_option maxRecDepth 100000
set_option maxHeartbeats 1000000
open Go.RowKit
set_option linter.unusedVariables false
set_option linter.unusedSimpArgs false
def conR(N:Nat)(rows:List RwR)(i:Nat):List CR:=(rows.take i).flatMap fun r=>toldS r.1 true (ltV N r.2)
theorem conR_succ{N:Nat}{rows:List RwR}{i:Nat}{r:RwR}(h:rows[i]? =some r):conR N rows (i+1)=conR N rows i++toldS r.1 true (ltV N r.2):=by
 unfold conR;rw[take_next h,List.flatMap_append]
 simp
def oneT(i:Nat):List (Int×Rat):=[((i:Int),((1:Int):Rat))]
def vrD:VrR:=(false,(false,false,0,0),0)
def conV(vs:List VrR)(i:Nat):List CR:=(List.range i).flatMap fun j=>toldS (vs.getD j vrD).2.1 false (oneT j)
theorem conV_succ{vs:List VrR}{i:Nat}{v:VrR}(h:vs[i]? =some v):conV vs (i+1)=conV vs i++toldS v.2.1 false (oneT i):=by
 unfold conV;rw[List.range_succ,List.flatMap_append,List.flatMap_singleton,List.getD_eq_getElem?_getD,h]
 rfl
def conP(p:PbR):List CR:=conR p.2.length p.1 p.1.length++conV p.2 p.2.length
theorem told_len(s:SpR)(t:Bool)(l:List (Int×Rat)):(toldS s t l).length≤2:=by
 unfold toldS
 split
 ·simp
 ·rw[List.length_append]
  split<;>split<;>simp
theorem conR_len(N:Nat)(rows:List RwR):∀i,(conR N rows i).length≤2*i:=by
 intro i
 induction i with
 |zero=>simp [conR]
 |succ i ih=>
  cases h:rows[i]? with
  |none=>
   have:rows.length≤i:=List.getElem?_eq_none_iff.1 h
   unfold conR at ih ⊢;rw[List.take_of_length_le (by omega)];rw[List.take_of_length_le this]at ih
   omega
  |some r=>
   rw[conR_succ h,List.length_append]
   have:=told_len r.1 true (ltV N r.2)
   omega
theorem conV_len(vs:List VrR):∀i,(conV vs i).length≤2*i:=by
 intro i
 induction i with
 |zero=>simp [conV]
 |succ i ih=>
  unfold conV at ih ⊢;rw[List.range_succ,List.flatMap_append,List.flatMap_singleton,List.length_append]
  have:=told_len (vs.getD i vrD).2.1 false (oneT i)
  omega
theorem ltV_len(N:Nat)(l:List (Int×Rat)):(ltV N l).length≤l.length:=List.length_filter_le _ _
def CoJ(B K:Nat)(w:World)(u:Value)(n:Nat)(cs:List CR):Prop:=n=cs.length∧CoL B K w u cs
theorem CoL.ge{B K:Nat}{w:World}{v:Value}{cs:List CR}(h:CoL B K w v cs):∀g,v.ownBlock=some g→B≤g:=by
 obtain⟨vs,h1, -⟩:=h;exact h1.ge
set_option maxHeartbeats 2000000 in
theorem mcons_calls(k K NN:Nat)(v:Value)(p:PbR)(w:World)(hp:PbV k w v p)(hNN:∀r∈p.1,r.2.length≤NN)(hN1:1≤NN)(hNb:NN≤1000000)(hK:(NN+1)*(k+1)≤K)(hK2:K≤34359738000)(hk1:1≤k)(hr1:p.1.length≤100000)(hv1:p.2.length≤100000):
  Calls Tryz.prog 18 #[v] w fun e w'=>∃v',e= .returned v'∧CoL (w.heap.size+1) K w' v' (conP p)∧Ext w w':=by
 obtain⟨rows,vars⟩:=p;obtain⟨n0,n1,ra,rn,rc,va,vn,vc,rfl,hr,hvv⟩:=hp;obtain⟨ra',n,rc',hrn,hre, -,hatr⟩:=hr.at;simp only[Value.slice.injEq]at hre;obtain⟨rfl,rfl,rfl⟩:=hre;obtain⟨va',n,vc',hn,hve,hn1,hatv⟩:=hvv.at;simp only[Value.slice.injEq]at hve;obtain⟨rfl,rfl,rfl⟩:=hve
 simp only at hrn hn hatr hatv hNN hr1 hv1
 have Hn:=Lib.hid hn;have Hrn:=Lib.hid hrn;have HAV:=Lib.hid hatv;have HAR:=Lib.hid hatr;have HNN:=Lib.hid hNN;have HK:=Lib.hid hK;rw[←hrn]at hr1;rw[←hn]at hv1;have hkk:k+1≤K:=Nat.le_trans (Nat.le_mul_of_pos_left _ (by omega)) hK
 have HKL:Hid (∀m:Nat,m≤NN→(m+1)*(k+1)≤K):=Lib.hid fun m hm=>Nat.le_trans (Nat.mul_le_mul_right _ (by omega)) hK
 clear hr hvv hrn hn hatr hatv hNN hK hn1;obtain⟨w1,hw1,e1,b1_,s1⟩:=alloc1 w #[.string n0,.string n1,.slice ra rn rc,.slice va vn vc] 25
 have hs1:w1.heap.size=w.heap.size+1:=s1
 have hmf:∀(fn:Fn) (first cap:Array Value) (w:World),(Instr.makeFunc fn first cap).run Tryz.prog w= .ok (.func fn first cap) w:=fun _ _ _ _=>rfl
 go_enter Tryz.func18,Tryz.ntmps18
 go_wp2_with fail;rw[←hw1]
 go_loopw [2,11] (fun s2 s11 wr=>∃(i n:Nat) (ado:Option Addr) (capo:Nat),i≤rn∧s11= .int .i64 (i:Int)∧s2= .slice ado n capo∧Hid (CoJ w1.heap.size K wr (.slice ado n capo) n (conR vn rows i))∧Ext w1 wr) (fun _ s11 _=>((rn:Int) - intOf s11).toNat)
 case atStart=>exact ⟨0,0,none,0,Nat.zero_le _,rfl,rfl,Lib.hid ⟨rfl,OL.nil _ _ _ _ _⟩,Ext.refl _⟩
 case round=>
  obtain⟨i,n,ado,capo,hi,rfl,rfl,hH,hE0⟩:=hrel
  rcases Nat.eq_or_lt_of_le hi with hin |hin
  ·have hlt:¬((i:Int)<(rn:Int)):=by omega
   have hb:=b1_.ext hE0;have ha0:=hb.cell 0;have ha1:=hb.cell 1;have ha2:=hb.cell 2;have ha3:=hb.cell 3;have HN0:=hH.out.1;have HL0:=Lib.hid hH.out.2;obtain⟨c0,hc0⟩:∃c0,c0=conR vn rows rn:=⟨_,rfl⟩;rw[hin,←hc0]at HL0 HN0;have HC0:=Lib.hid hc0
   have hcl0:c0.length≤2*rn:=by rw[hc0];exact conR_len _ _ _
   have E0:=Lib.hid hE0;subst HN0;clear hb hH hin hi hE0 hc0 hw1;go_wp2_with fail
   go_loopw [2,30] (fun s2 s30 wr=>∃(i n:Nat) (ado:Option Addr) (capo:Nat),i≤vn∧s30= .int .i64 (i:Int)∧s2= .slice ado n capo∧Hid (CoJ w1.heap.size K wr (.slice ado n capo) n (c0++conV vars i))∧Ext w1 wr) (fun _ s30 _=>((vn:Int) - intOf s30).toNat)
   case atStart=>exact ⟨0,c0.length,ado,capo,Nat.zero_le _,rfl,rfl,Lib.hid ⟨by simp[conV],by simpa[conV]using HL0.out⟩,E0.out⟩
   clear HL0 ha0 ha1 ha2 ha3 E0
   case round=>
    obtain⟨i,n,ado,capo,hi,rfl,rfl,hH,hE0⟩:=hrel
    rcases Nat.eq_or_lt_of_le hi with hin |hin
    ·have hlt:¬((i:Int)<(vn:Int)):=by omega
     have HF:=Lib.hid (show CoL (w.heap.size+1) K wr (.slice ado n capo) (conP (rows,vars))from by
      have h1:=hH.out.2;rw[hs1,hin,HC0.out]at h1;unfold conP
      show CoL _ _ _ _ (conR vars.length rows rows.length++conV vars vars.length)
      rw[←Hn.out,←Hrn.out]
      exact h1)
     clear hH;go_wp2;go_ret;exact⟨_,rfl,HF.out,e1.trans hE0⟩
    ·have hlt:(i:Int)<(vn:Int):=by omega
     obtain⟨y,hy⟩:∃y,vars[i]? =some y:=⟨_,List.getElem?_eq_getElem (by rw[←Hn.out];exact hin)⟩;obtain⟨g0,off,rfl,nm,l,h,c,hcell,hS, -⟩:=HAV.out i y hy;obtain⟨hc0,hc1,hc2,hc3,hc4,hc5,hc6,hc7,hc8,hc9,hc10,hc11,hc12⟩:=hcell wr (e1.trans hE0);have HCS:=Lib.hid (conV_succ hy);obtain⟨wl,hwl,el,BV,sl⟩:=alloc1 wr #[.string nm,.bool y.1,.bool y.2.1.1,.bool y.2.1.2.1,.bool l.b,.slice l.a1 l.n1 l.c1,.slice l.a2 l.n2 l.c2,.bool h.b,.slice h.a1 h.n1 h.c1,.slice h.a2 h.n2 h.c2,.bool c.b,.slice c.a1 c.n1 c.c1,.slice c.a2 c.n2 c.c2] 43;have hEl:=hE0.trans el;have HS:=Lib.hid (hS.ext (e1.trans hEl));obtain⟨gv,hgv⟩:∃gv,gv=wr.heap.size:=⟨_,rfl⟩;rw[←hgv]at BV;have hwrs:=hE0.size;have hgvl:=BV.lt;have hwls:=el.size;have hncs:=hH.out.1;have hb1:=conV_len vars i;have hb2:=told_len y.2.1 false (oneT i);obtain⟨ds,hds⟩:∃ds,ds=toldS y.2.1 false (oneT i):=⟨_,rfl⟩;rw[←hds]at hb2;have HDS:=Lib.hid hds;obtain⟨cs,hcs⟩:∃cs,cs=c0++conV vars i:=⟨_,rfl⟩
     have hcl:cs.length≤2*rn+2*i:=by rw[hcs,List.length_append];omega
     have HJL:Hid (CoL w1.heap.size K wl (.slice ado n capo) cs):=Lib.hid (by rw[hcs];exact hH.out.2.ext el);rw[←hcs]at hncs;have HCC:=Lib.hid hcs;subst hncs;have hZ1:szQ ((1:Int):Rat)≤k:=Nat.le_trans szQ_int1 hk1;have HZ1:=Lib.hid hZ1;have HKK:Hid (((oneT i).length+1)*(k+1)≤K):=Lib.hid (HKL.out (oneT i).length hN1)
     have lim:68719476736≤LIM:=by rw[LIM_eq];omega
     obtain⟨gA,hgAl,hgAB,hgr,hgk⟩:∃gA,gA<wl.heap.size∧w1.heap.size≤gA∧(∀wa wb:World,wa.grownBy wb (Value.slice ado cs.length capo).ownBlock→Chg gA wa wb)∧True:=by
      cases hob:(Value.slice ado cs.length capo).ownBlock with
      |none=>exact ⟨gv,hgvl,by omega,fun wa wb h=>Ext.chg gv h,trivial⟩
      |some g=>
       obtain⟨vs,hLS, -⟩:=HJL.out;obtain⟨_,_, -, -, -,h4⟩:=hLS.opn;obtain⟨-,h6,h7, -⟩:=h4 g hob;exact⟨g,h7,h6,fun wa wb h=>h,trivial⟩
     have HGR:=Lib.hid hgr;clear hcell hS hy hds hcs hH hgr hgk hb1;go_wp2_with fail;rw[←hwl,←hgv];clear hc0 hc1 hc2 hc3 hc4 hc5 hc6 hc7 hc8 hc9 hc10 hc11 hc12 hwl hgv
     refine wp_region_one gA 8 9 (fun u b=>CoL w1.heap.size K b u (cs++ds)) [PP.val (.slice ado cs.length capo),PP.val (.int .i64 (i:Int)),PP.frQ ((1:Int):Rat),PP.frTm (i:Int) ((1:Int):Rat),PP.oneT (i:Int) ((1:Int):Rat),PP.val (.agg #[.string nm,.bool y.1,.bool y.2.1.1,.bool y.2.1.2.1,.bool l.b,.slice l.a1 l.n1 l.c1,.slice l.a2 l.n2 l.c2,.bool h.b,.slice h.a1 h.n1 h.c1,.slice h.a2 h.n2 h.c2,.bool c.b,.slice c.a1 c.n1 c.c1,.slice c.a2 c.n2 c.c2]),PP.val (.agg #[.bool y.2.1.1,.bool y.2.1.2.1,.bool l.b,.slice l.a1 l.n1 l.c1,.slice l.a2 l.n2 l.c2,.bool h.b,.slice h.a1 h.n1 h.c1,.slice h.a2 h.n2 h.c2]),PP.toldP K ds,PP.any,PP.any] [(0,9,2)] [8,7,6,5,4,3,2,1,0] (by kernel_rfl) (by kernel_rfl) (fun f=>(by simp only[fillR,fillL,List.setIfInBounds_toArray,List.set_cons_succ,List.set_cons_zero,Nat.reduceAdd];rfl)) (by decide) (hgAl) (fun u w1 w2 h hp=>hp.ext h) (by intro p hp;simp only[List.mem_cons,List.not_mem_nil,or_false]at hp;rcases hp with rfl |rfl |rfl |rfl |rfl |rfl |rfl |rfl |rfl |rfl<;>rfl) (fun _ _=>trivial) ?_ ?_ (by decide)
     ·refine⟨?_,?_,?_,?_,?_,?_,?_,?_,?_,?_,trivial⟩
      ·intro f w7 hG hp hl
       have l2:f 9= .slice ado cs.length capo:=hl.1 rfl
       simp only[OpGoal];go_simp;exact⟨_,rfl,Ext.refl _,rfl⟩
      ·intro f w7 hG hp hl;simp only[OpGoal];go_simp;exact⟨_,rfl,Ext.refl _,rfl⟩
      ·intro f w7 hG hp hl;have hE:Ext wl w7:=hG;have hS:=hE.size;change OpGoal _ _ _ f w7 Ext _;refine oC #[.int .i64 1] Tryz.func83 rfl rfl ?_;refine(rwhole_calls 1 _ (by omega) (by omega)).mono ?_;rintro e w' ⟨v',rfl,h1,h2⟩;exact⟨v',rfl,h2,h1.mono hS⟩
      ·intro f w7 hG hp hl
       have q36:f 1= .int .i64 (i:Int):=tellO hp 0 1 rfl rfl
       have q37:=tellO hp 1 2 rfl rfl;obtain⟨tb,ta1,tn1,tc1,ta2,tn2,tc2,tv,tq⟩:=FrQ.opn q37;change OpGoal _ _ _ f w7 Ext _;simp only[OpGoal];go_simp;exact⟨_,rfl,Ext.refl _,⟨(i:Int),tb,ta1,tn1,tc1,ta2,tn2,tc2⟩,rfl,rfl,tq⟩
      ·intro f w7 hG hp hl;have hE:Ext wl w7:=hG;have hS:=hE.size;have q38:=tellO hp 0 3 rfl rfl;obtain⟨tt,tv,tc,tq⟩:=q38;change OpGoal _ _ _ f w7 Ext _;exact og_buildSlice (P:=Tryz.prog) 31 95 1 4 _ [tmv tt] rfl rfl Tryz.underlying31 (by kernel_rfl) (by kernel_rfl) (by simp only[Act.eval];exact congrArg (fun z=> [(0,z)]) tv) rfl (by omega) (by omega) (by omega) (strN_tmv [tt]).size (fun w' he hb=>⟨_,tt,hS,rfl,hb,tc,tq.ext he⟩)
      ·intro f w7 hG hp hl;have hE:Ext wl w7:=hG;change OpGoal _ _ _ f w7 Ext _;exact og_load (P:=Tryz.prog) _ _ gv _ _ _ rfl rfl rfl (BV.ext hE) Tryz.underlying43 rfl (by kernel_rfl) rfl
      ·intro f w7 hG hp hl
       have q40:f 5= .agg #[.string nm,.bool y.1,.bool y.2.1.1,.bool y.2.1.2.1,.bool l.b,.slice l.a1 l.n1 l.c1,.slice l.a2 l.n2 l.c2,.bool h.b,.slice h.a1 h.n1 h.c1,.slice h.a2 h.n2 h.c2,.bool c.b,.slice c.a1 c.n1 c.c1,.slice c.a2 c.n2 c.c2]:=tellO hp 0 5 rfl rfl
       change OpGoal _ _ _ f w7 Ext _;refine oC #[f 5] Tryz.func84 rfl rfl ?_;rw[q40];refine(ofvar_calls nm l h c y.2.1.1 y.2.1.2.1 y.1 _).mono ?_;rintro e w' ⟨rfl,h2⟩;exact⟨_,rfl,h2,rfl⟩
      ·intro f w7 hG hp hl;have hE:Ext wl w7:=hG;have hS:=hE.size;have q39:=tellO hp 0 4 rfl rfl
       have q41:f 6= .agg #[.bool y.2.1.1,.bool y.2.1.2.1,.bool l.b,.slice l.a1 l.n1 l.c1,.slice l.a2 l.n2 l.c2,.bool h.b,.slice h.a1 h.n1 h.c1,.slice h.a2 h.n2 h.c2]:=tellO hp 1 6 rfl rfl
       change OpGoal _ _ _ f w7 Ext _;refine oC #[f 4,f 6,.bool false] Tryz.func81 rfl rfl ?_;rw[q41];have hTL:=oneT_tl (k:=k) q39 HZ1.out (by omega);obtain⟨gq,tq, -,hvq, -⟩:=q39;rw[hvq]at hTL ⊢;refine(told_calls k K l h y.2.1 false (oneT i) _ (HS.out.ext hE) hTL (by simp[oneT]) (Nat.le_trans HKK.out hK2) HKK.out).mono ?_;rintro e w' ⟨v',rfl,h1,h2,h3⟩;exact⟨v',rfl,h3,w7.heap.size+3,by omega,by rw[HDS.out];exact h1,by rw[HDS.out];exact h2⟩
      ·intro f w7 hG hp hl;have hE:Ext wl w7:=hG;have hS:=hE.size
       have q35:f 0= .slice ado cs.length capo:=tellO hp 0 0 rfl rfl
       have q42:=tellO hp 1 7 rfl rfl
       have qL:f 0= .slice ado cs.length capo:=tellO hp 0 0 rfl rfl
       obtain⟨bb,hbb,hcu,hni⟩:=tellO hp 1 7 rfl rfl;change OpGoal _ _ _ f w7 (Chg gA) _;exact og_append_Co rfl _ _ rfl w1.heap.size bb K _ _ cs ds qL (HJL.out.ext hE) rfl hcu hni (by omega) (by omega) (by omega) (fun wb h=>HGR.out _ _ h) (fun v' w' h=>h)
      ·intro f w7 hG hp hl;have hS:wl.heap.size≤w7.heap.size:=Chg.size hG;change OpGoal _ _ _ f w7 Ext _;simp only[OpGoal];go_simp;exact⟨_,rfl,Ext.refl _,rfl⟩
     ·intro f w7 hC hF1 hmv hp;clear hp;have hE7:Ext w1 w7:=hEl.step hC hgAB
      have hFv:∃ad cap,f 8= .slice ad (cs.length+ds.length) cap:=by
       obtain⟨vs,hLS,hvl, -⟩:=hF1;obtain⟨ad,cap,h⟩:=ownsRow_lenP hLS.2;exact⟨ad,cap,by rw[h,hvl,List.length_append]⟩
      obtain⟨ad',cap',hfv⟩:=hFv;have hmv':=hmv (by decide);rw[hfv]at hF1 hmv';have HF1:=Lib.hid hF1
      (try rw[hmv'])
      (try rw[hfv])
      clear hF1 hmv hC;go_wp2;go_roundw
      case rel=>
       refine⟨i+1,cs.length+ds.length,ad',cap',by omega,congrArg (Value.int .i64) (by omega),(by first |rfl |exact hmv' |simp_all),Lib.hid ⟨?_,?_⟩,hE7⟩
       ·rw[HCS.out,←List.append_assoc,←HCC.out,←HDS.out,List.length_append]
       ·rw[HCS.out,←List.append_assoc,←HCC.out,←HDS.out];exact HF1.out
      case measure=>simp [intOf];omega
  ·have hlt:(i:Int)<(rn:Int):=by omega
   obtain⟨y,hy⟩:∃y,rows[i]? =some y:=⟨_,List.getElem?_eq_getElem (by rw[←Hrn.out];exact hin)⟩;obtain⟨g0,off,rfl,nm,l,h,ta,tn,tc,hcell,hS,hT⟩:=HAR.out i y hy;obtain⟨hc0,hc1,hc2,hc3,hc4,hc5,hc6,hc7,hc8,hc9⟩:=hcell wr (e1.trans hE0);have HS:=Lib.hid hS;have HT:=Lib.hid hT;have HCS:=Lib.hid (conR_succ (N:=vn) hy);have HNY:=Lib.hid (HNN.out y (List.mem_of_getElem? hy));obtain⟨wl,hwl,el,BR,sl⟩:=alloc1 wr #[.string nm,.bool y.1.1,.bool y.1.2.1,.bool l.b,.slice l.a1 l.n1 l.c1,.slice l.a2 l.n2 l.c2,.bool h.b,.slice h.a1 h.n1 h.c1,.slice h.a2 h.n2 h.c2,.slice ta tn tc] 97;have hEl:=hE0.trans el;have hbr:=BR;have ha0:=hbr.cell 0;have ha1:=hbr.cell 1;have ha2:=hbr.cell 2;have ha3:=hbr.cell 3;have ha4:=hbr.cell 4;have ha5:=hbr.cell 5;have ha6:=hbr.cell 6;have ha7:=hbr.cell 7;have ha8:=hbr.cell 8;have ha9:=hbr.cell 9;rw[hwl]at ha0 ha1 ha2 ha3 ha4 ha5 ha6 ha7 ha8 ha9;clear hcell hS hT hy hbr;go_wp2_with fail;rw[←hwl];have hwrs:=hE0.size;obtain⟨gr,hgr⟩:∃gr,gr=wr.heap.size:=⟨_,rfl⟩;rw[←hgr]at BR ⊢;clear hc0 hc1 hc2 hc3 hc4 hc5 hc6 hc7 hc8 hc9 ha0 ha1 ha2 ha3 ha4 ha5 ha6 ha7 ha8 ha9 hwl hgr hw1;have E1l:=e1.trans hEl;refine(vclone_calls k _ y.2 wl (HT.out.ext E1l) (by have:=HNY.out;omega)).mono ?_;rintro e w2 ⟨v2,ps,rfl,hls,hps,hir,e2⟩;have HLS:=Lib.hid hls;have HPS:=Lib.hid (And.intro hps hir);have BP:=b1_.ext (hEl.trans e2)
   have hpl:ps.length≤34359738368:=by
    have h1:(lP ps).length=ps.length:=by unfold lP;simp
    rw[hps]at h1
    have:=HNY.out
    omega
   clear hls hps hir;go_wp2_with fail;refine(mdel_calls wl.heap.size w.heap.size vn _ ps w2 HLS.out hpl BP).mono ?_;rintro e w3 ⟨v3,rfl,hl3,hg3⟩;have E3:Ext wl w3:=e2.stepG hg3 HLS.out.ge
   have HL3:Hid (TL k w3 v3 (ltV vn y.2)):=Lib.hid (by
    have h1:=LS.tl (k:=k) hl3 (fun p hp=>((HPS.out.2 p (List.mem_filter.1 hp).1)).ext E3);rw[lP_ltP,HPS.out.1]at h1
    exact h1)
   clear hg3 BP hpl
   obtain⟨ta3,tn3,tc3,rfl⟩:∃a n c,v3= .slice a n c:=by
    obtain⟨ad,cap,h1, -⟩:=hl3.opn;exact⟨_,_,_,h1⟩
   have hbr:=BR.ext E3;have ha0:=hbr.cell 0;have ha1:=hbr.cell 1;have ha2:=hbr.cell 2;have ha3:=hbr.cell 3;have ha4:=hbr.cell 4;have ha5:=hbr.cell 5;have ha6:=hbr.cell 6;have ha7:=hbr.cell 7;have ha8:=hbr.cell 8;have ha9:=hbr.cell 9;clear hl3 hbr;go_wp2_with fail;refine(ofrow_calls nm l h ta tn tc y.1.1 y.1.2.1 w3).mono ?_;rintro e w4 ⟨rfl,e4⟩;have E4:=E3.trans e4;have E14:=E1l.trans E4;have hlt3:(ltV vn y.2).length≤NN:=Nat.le_trans (ltV_len _ _) HNY.out;have HKK:=Lib.hid (HKL.out _ hlt3);clear ha0 ha1 ha2 ha3 ha4 ha5 ha6 ha7 ha8 ha9;go_wp2_with fail;refine(told_calls k K l h y.1 true (ltV vn y.2) w4 (HS.out.ext E14) (HL3.out.ext e4) (by omega) (by have:=HKK.out;omega) HKK.out).mono ?_;rintro e w5 ⟨v5,rfl,hL5,hnil,e5⟩;have hE5:=hEl.trans (E4.trans e5);have HL5:=Lib.hid hL5;have HNI:=Lib.hid hnil;have HJ5:Hid (CoL w1.heap.size K w5 (.slice ado n capo) (conR vn rows i)):=Lib.hid (hH.out.2.ext (el.trans (E4.trans e5)));have hncs:=hH.out.1;have hb1:=conR_len vn rows i;have hb2:=told_len y.1 true (ltV vn y.2);have hw5s:=hE5.size;have hw14:=(hEl.trans E4).size;obtain⟨ds,hds⟩:∃ds,ds=toldS y.1 true (ltV vn y.2):=⟨_,rfl⟩;rw[←hds]at HL5 HNI hb2;have HDS:=Lib.hid hds;obtain⟨cs,hcs⟩:∃cs,cs=conR vn rows i:=⟨_,rfl⟩;rw[←hcs]at HJ5 hncs hb1;have HCC:=Lib.hid hcs;subst hncs;clear hL5 hnil hds hcs hH
   go_wp2_with (first
    | (at_builtin;go_loud (refine wpList_append_Co rfl _ _ rfl w1.heap.size (w4.heap.size+3) K _ _ cs ds rfl HJ5.out rfl HL5.out HNI.out (by omega) (by omega) (by omega) ?_);intro ad' cap' w7 hL7 hg7)
    |fail)
   go_roundw
   case rel=>
    have hE7:Ext w1 w7:=hE5.stepG hg7 HJ5.out.ge;refine⟨i+1,cs.length+ds.length,ad',cap',by omega,congrArg (Value.int .i64) (by omega),rfl,Lib.hid ⟨?_,?_⟩,hE7⟩
    ·rw[HCS.out,←HCC.out,←HDS.out,List.length_append]
    ·rw[HCS.out,←HCC.out,←HDS.out];exact hL7
   case measure=>simp [intOf];omega
set_option maxHeartbeats 2000000 in
theorem rcons_calls(k K:Nat)(s:Int){ta:Option Addr}{tn tc:Nat}(v:Value)(l:List (Int×Rat))(x:Rat)(w:World)(ht:TL k w (.slice ta tn tc) l)(hx:IsR w v x k)(hn:l.length≤1000)(hk:k≤1000)(hK:l.length*(k+1)+1≤K)(hK2:k≤K):
  Calls Tryz.prog 86 #[.int .i64 s,.slice ta tn tc,v] w fun e w'=>∃v',e= .returned v'∧CnO w.heap.size K w' v' (s,mkV l,x)∧Ext w w':=by
 obtain⟨q,rfl⟩:=hx.qc;unfold qv at hx ⊢;obtain⟨b,a1,n1,c1,a2,n2,c2⟩:=q
 simp only at hx ⊢
 have hz5:=szD_of hx.sz;have HZ:=Lib.hid hx.sz;have HT:=Lib.hid ht;have HR:=Lib.hid hx;clear ht hx
 go_enter Tryz.func86,Tryz.ntmps86
 go_wp2_with fail;obtain⟨w1,hw1,e1,b1,b2,s1⟩:=alloc2 w #[.bool b,.slice a1 n1 c1,.slice a2 n2 c2] #[.int .i64 0,.slice none 0 0,.bool false,.slice none 0 0,.slice none 0 0] 41 46;rw[←hw1];clear hw1;refine wpP [⟨7,(w.heap.size+1),46,PP.cnO K (s,mkV l,x)⟩] [PP.val (.int .i64 s),PP.val (.slice ta tn tc),PP.tO K (mkV l),PP.val (.agg #[.bool b,.slice a1 n1 c1,.slice a2 n2 c2]),PP.frQd x,PP.frQ x,PP.cnO K (s,mkV l,x),PP.any] [] [7,6,5,4,3,2,1,0] ?_ ?_ ?_ ?_ ?_
 ·intro x hx;simp only[List.mem_singleton]at hx;subst hx;exact⟨by show(w.heap.size+1)<w1.heap.size;omega,rfl⟩
 ·intro x hx;simp only[List.mem_singleton]at hx;subst hx;rfl
 ·intro x hx y hy h;simp only[List.mem_singleton]at hx hy;subst hx hy;exact absurd rfl h
 ·refine⟨?_,?_,?_,?_,?_,?_,?_,?_,trivial⟩
  ·intro f w2 hG hp hl;simp only[OpGoal];go_simp;exact⟨_,rfl,Ext.refl _,rfl⟩
  ·intro f w2 hG hp hl;simp only[OpGoal];go_simp;exact⟨_,rfl,Ext.refl _,rfl⟩
  ·intro f w2 hG hp hl;have hE:Ext w1 w2:=hG;have hS:=hE.size;have q8:=tE hp 0 1 rfl rfl rfl;change OpGoal _ _ _ f w2 Ext _;refine oC #[f 1] Tryz.func87 rfl rfl ?_;rw[q8];refine(make5_calls k _ l _ (HT.out.ext (e1.trans hE)) (by omega) hn).mono ?_;rintro e w' ⟨v',rfl,h1,h2⟩;exact⟨v',rfl,h2,(h1.le hK).mono hS⟩
  ·intro f w2 hG hp hl;have hE:Ext w1 w2:=hG;change OpGoal _ _ _ f w2 Ext _;exact og_load (P:=Tryz.prog) _ _ w.heap.size _ _ _ rfl rfl rfl (b1.ext hE) Tryz.underlying41 rfl (by kernel_rfl) rfl
  ·intro f w2 hG hp hl;have hE:Ext w1 w2:=hG;have hS:=hE.size;have q10:=tE hp 0 3 rfl rfl rfl;change OpGoal _ _ _ f w2 Ext _;refine oC #[f 3] Tryz.func31 rfl rfl ?_;rw[q10];refine(rqofR_calls _ x k _ (HR.out.ext (e1.trans hE)) (by omega)).mono ?_;rintro e w' ⟨v',rfl,h1,h2⟩;exact⟨v',rfl,h2,h1.mono hS⟩
  ·intro f w2 hG hp hl;have hE:Ext w1 w2:=hG;have hS:=hE.size;have q11:=tellV hp 0 4 rfl rfl (fun _=>hE);change OpGoal _ _ _ f w2 Ext _;refine oC #[f 4] Tryz.func35 rfl rfl ?_;refine(rqto3_calls _ x _ q11.cq (by omega)).mono ?_;rintro e w' ⟨v',rfl,h1,h2⟩;exact⟨v',rfl,h2,h1.mono hS⟩
  ·intro f w2 hG hp hl;have hE:Ext w1 w2:=hG;have q7:=tE hp 0 0 rfl rfl rfl;have q9:=tellV hp 1 2 rfl rfl (fun _=>hE);have q12:=tellV hp 2 5 rfl rfl (fun _=>hE);obtain⟨ad,cap,hv⟩:=TO.val q9;obtain⟨s',t',hv2,hn2,hm2⟩:=q12;obtain⟨ad1,cap1,hv3⟩:=FrN.slice hn2;obtain⟨ad2,cap2,hv4⟩:=FrN.slice hm2;subst hv3 hv4;simp only[OpGoal];go_simp;exact⟨_,rfl,Ext.refl _,_,_,_,_,_,_,_,_,_,_,rfl,hv▸q9,⟨_,_,rfl,hn2,hm2⟩,Nat.le_trans HZ.out hK2⟩
  ·intro f w2 hG hp hl;have hE:Ext w1 w2:=hG;have hS:=hE.size;have q13:=tellV hp 0 6 rfl rfl (fun _=>hE);intro hg0;change OpGoal _ _ _ f w2 (Chg _) _;obtain⟨a',n',p',b',a1',n1',c1',a2',n2',c2',hv,ht,hq,hz⟩:=q13;exact og_store (P:=Tryz.prog) _ _ _ (w.heap.size+1) _ _ _ (PP.cnO K (s,mkV l,x):PP _).p rfl rfl rfl hv (show Bx 46 w2 _ _ from hg0.trans b2) (by kernel_rfl) rfl (all5 rfl rfl rfl rfl rfl) (fun w' h=>⟨a',n',p',b',a1',n1',c1',a2',n2',c2',rfl,ht.chg h (by omega),hq.chg h (by omega),hz⟩)
 ·intro f w2 hG hp;obtain⟨cs0,hbx0,hz0⟩:∃cs,Bx 46 w2 (w.heap.size+1) cs∧(PP.cnO K (s,mkV l,x):PP w1.heap.size).p (.agg cs) w2:=endS hp 7 (by decide);clear hp;have hz1:=hz0.mono (show w.heap.size≤_ by omega);obtain⟨a',n',p',b',a1',n1',c1',a2',n2',c2',hvv,hnn,hmm,hzz⟩:=hz0
  cases hvv
  go_wp2;refine ret_box 6 46 (w.heap.size+1) 46 _ _ (by kernel_rfl) rfl hbx0 Tryz.underlying46 rfl (by kernel_rfl) rfl ?_;exact⟨_,rfl,hz1,e1.stepS hG (by simp)⟩
theorem coL_one{S K:Nat}{w:World}{cells:Array Value}{c:CR}(h:CnO S K w (.agg cells) c)(hs:S≤w.heap.size)(h5:cells.size=5)(ho:cells.all (·.oneCell')=true):CoL S K (w.alloc (.cells cells 46)) (.slice (some ⟨w.heap.size,0,none⟩) 1 1) [c]:=by
 have hb:=Bx.new w 46 cells;refine⟨[.agg cells],LS.of_hold (e:=46) (n:=5) (B:=S) (vs:=[.agg cells]) (rest:=[]) (.one h5 ho) hs (Nat.le_refl _) (by omega) (by simp) ?_,rfl,fun i u y hu hy=> ?_⟩
 ·have e:(flatS [Value.agg cells]++ []).toArray=cells:=by simp[flatS,Value.cells]
  rw[e];exact hb
 ·cases i with
  |zero=>
   cases hu
   cases hy
   exact h.ext ((Ext.refl _).alloc _)
  |succ i=>simp at hu
theorem oneT_to{S:Nat}{w:World}{u:Value}{c:Int}{q:Rat}{k:Nat}(h:(PP.oneT c q:PP S).p u w)(hz:szQ q≤k):TO S k w u [(c,q)]:=by
 obtain⟨g,t,h0,rfl,h2,h3,h4⟩:=h
 have hLS:=LS.of_hold (e:=95) (n:=4) (B:=S) (w:=w) (vs:=([t]:List TmC).map tmv) (g:=g) (cap:=1) (rest:=[]) (strN_tmv _) h0 (Nat.le_refl _) (by omega) (by simp) (by
  have e:(flatS (([t]:List TmC).map tmv)++ []).toArray=(tmv t).cells:=by simp[flatS]
  rw[e]
  exact h2)
 have h5:=TO.of_ps (k:=k) (ps:=[(t,q)]) (B:=S) hLS (fun p hp=>by
  rw[List.mem_singleton]at hp;subst hp
  exact⟨h4,hz⟩)
 unfold lP at h5;rw[←h3];exact h5
theorem CoL.empty(B K:Nat)(w:World)(hB:B≤w.heap.size):CoL B K (w.alloc (.cells #[] 46)) (.slice (some ⟨w.heap.size,0,none⟩) 0 0) []:=
 ⟨[],LS.empty 46 5 B w hB,rfl,fun i u y h=>by simp at h⟩
theorem ltV_snoc{N:Nat}{l:List (Int×Rat)}{i:Nat}{x:Int×Rat}(h:l[i]? =some x):ltV N (l.take (i+1))=if x.1<(N:Int)then ltV N (l.take i)++ [x]else ltV N (l.take i):=by
 unfold ltV;rw[take_next h,List.filter_append]
 by_cases hx:x.1<(N:Int)
 ·rw[if_pos hx,List.filter_cons_of_pos (by simp;omega)]
  rfl
 ·rw[if_neg hx,List.filter_cons_of_neg (by simp;omega)]
  simp
def TmJ(B k:Nat)(w0 w:World)(lv:Value)(ps:Ps)(m:List (Int×Rat)):Prop:=LS 95 4 B w lv ((tsP ps).map tmv)∧lP ps=m∧∀p∈ps,IsR w0 (ratv p.1) p.2 k
theorem TmJ.ext{B k:Nat}{w0 w w':World}{lv:Value}{ps:Ps}{m:List (Int×Rat)}(h:TmJ B k w0 w lv ps m)(he:Ext w w'):TmJ B k w0 w' lv ps m:=⟨h.1.ext he,h.2.1,h.2.2⟩
theorem TmJ.tl{B k:Nat}{w0 w:World}{lv:Value}{ps:Ps}{m:List (Int×Rat)}(h:TmJ B k w0 w lv ps m)(he:Ext w0 w):TL k w lv m:=by
 rw[←h.2.1]
 exact LS.tl h.1 fun p hp=>(h.2.2 p hp).ext he
theorem LS.keepT{B:Nat}{w w':World}{v:Value}{vs:List Value}(h:LS 95 4 B w v vs)(hk:KeepT w w'):LS 95 4 B w' v vs:=by
 refine⟨h.1,h.2.1,?_⟩
 rcases h.2.2 with h2 |⟨g,cap,cur,j1,j2,j3,j4⟩
 ·exact .inl h2
 ·exact .inr ⟨g,cap,cur,j1,j2,hk _ _ _ (.inr rfl) j3,j4⟩
theorem TmJ.keepT{B k:Nat}{w0 w w':World}{lv:Value}{ps:Ps}{m:List (Int×Rat)}(h:TmJ B k w0 w lv ps m)(hk:KeepT w w'):TmJ B k w0 w' lv ps m:=⟨h.1.keepT hk,h.2.1,h.2.2⟩
theorem CoL.keepB{B K:Nat}{w w':World}{v:Value}{cs:List CR}(h:CoL B K w v cs)(hg:w.grownBy w' v.ownBlock):KeepT w w'∧∀(t:TypeId) (g:Nat) (xs:Array Value),t≠46→Bx t w g xs→Bx t w' g xs:=by
 obtain⟨vs,hLS, -⟩:=h
 have hr:∀g,v.ownBlock=some g→∃cs,Bx 46 w g cs:=fun g hg=>by
  rcases hLS.2.2 with⟨e1,e2⟩ |⟨g'',cap'',cur,e1,e2,e3,e4⟩
  ·rw[e1]at hg;cases hg
  ·rw[e1]at hg;simp only[Value.ownBlock,Option.some.injEq]at hg;subst hg;exact⟨cur,e3⟩
 refine⟨grown_keepT hg hr,fun t g xs ht hb=> ?_⟩
 cases hob:v.ownBlock with
 |none=>rw [hob]at hg;exact hb.ext hg
 |some g'=>
  rw[hob]at hg;obtain⟨cs',hb'⟩:=hr g' hob
  refine hb.chg hg fun e=> ?_
  subst e;unfold Bx at hb hb';rw[hb]at hb';simp only[Option.some.injEq,Obj.cells.injEq,and_true]at hb';exact ht hb'.2
set_option maxHeartbeats 2000000 in
theorem rconstr_calls(k K:Nat)(v:Value)(p:PbR)(w:World)(hp:PbV k w v p)(hNN:∀r∈p.1,r.2.length≤1000)(hk:k≤1000)(hK:1001*(k+1)≤K)(hk1:1≤k)(hr1:p.1.length≤100000)(hv1:p.2.length≤100000):
  Calls Tryz.prog 22 #[v] w fun e w'=>∃v',e= .returned v'∧CoL (w.heap.size+1) K w' v' (conP p)∧Ext w w':=by
 obtain⟨rows,vars⟩:=p;obtain⟨n0,n1,ra,rn,rc,va,vn,vc,rfl,hr,hvv⟩:=hp;obtain⟨ra',n,rc',hrn,hre, -,hatr⟩:=hr.at;simp only[Value.slice.injEq]at hre;obtain⟨rfl,rfl,rfl⟩:=hre;obtain⟨va',n,vc',hn,hve,hn1,hatv⟩:=hvv.at;simp only[Value.slice.injEq]at hve;obtain⟨rfl,rfl,rfl⟩:=hve
 simp only at hrn hn hatr hatv hNN hr1 hv1
 have Hn:=Lib.hid hn;have Hrn:=Lib.hid hrn;have HAV:=Lib.hid hatv;have HAR:=Lib.hid hatr;have HNN:=Lib.hid hNN;rw[←hrn]at hr1;rw[←hn]at hv1
 have hkk:1001*k+1001≤K:=by rw[Nat.mul_add]at hK;omega
 clear hr hvv hrn hn hatr hatv hNN hn1;obtain⟨wp,hwp,ep,bP,sp⟩:=alloc1 w #[.string n0,.string n1,.slice ra rn rc,.slice va vn vc] 25
 have hsp:wp.heap.size=w.heap.size+1:=sp
 obtain⟨w1,hw1⟩:∃w1,w1=wp.alloc (.cells #[] 46):=⟨_,rfl⟩;have e1:Ext wp w1:=hw1▸(Ext.refl _).alloc _;have HC1:Hid (CoL wp.heap.size K w1 (.slice (some ⟨wp.heap.size,0,none⟩) 0 0) []):=Lib.hid (hw1▸CoL.empty _ _ _ (Nat.le_refl _))
 have HW1:Hid (w1=(w.alloc (.cells #[.string n0,.string n1,.slice ra rn rc,.slice va vn vc] 25)).alloc (.cells #[] 46)):=Lib.hid (by rw[hw1,hwp])
 have ebC:=emptyC;have ebT:=emptyT;clear hw1 hwp
 go_enter Tryz.func22,Tryz.ntmps22
 go_wp2_with fail;rw[←HW1.out]
 go_loopw [3,4] (fun s3 s4 wr=>∃(i n:Nat) (ado:Option Addr) (capo:Nat),i≤rn∧s4= .int .i64 (i:Int)∧s3= .slice ado n capo∧Hid (CoJ wp.heap.size K wr (.slice ado n capo) n (conR vn rows i))∧Ext wp wr) (fun _ s4 _=>((rn:Int) - intOf s4).toNat)
 case atStart=>exact ⟨0,0,some ⟨w.heap.size+1,0,none⟩,0,Nat.zero_le _,rfl,rfl,Lib.hid ⟨rfl,by rw[←hsp];exact HC1.out⟩,e1⟩
 case round=>
  obtain⟨i,n,ado,capo,hi,rfl,rfl,hH,hE0⟩:=hrel;have hb:=bP.ext hE0;have hp0:=hb.cell 0;have hp1:=hb.cell 1;have hp2:=hb.cell 2;have hp3:=hb.cell 3;clear hb
  rcases Nat.eq_or_lt_of_le hi with hin |hin
  ·have hlt:¬((i:Int)<(rn:Int)):=by omega
   have HN0:=hH.out.1;have HL0:=Lib.hid hH.out.2;obtain⟨c0,hc0⟩:∃c0,c0=conR vn rows rn:=⟨_,rfl⟩;rw[hin,←hc0]at HL0 HN0;have HC0:=Lib.hid hc0
   have hcl0:c0.length≤2*rn:=by rw[hc0];exact conR_len _ _ _
   have E0:=Lib.hid hE0;subst HN0;clear hH hin hi hE0 hc0 HC1 HW1;go_wp2_with fail
   go_loopw [3,8] (fun s3 s8 wr=>∃(i n:Nat) (ado:Option Addr) (capo:Nat),i≤vn∧s8= .int .i64 (i:Int)∧s3= .slice ado n capo∧Hid (CoJ wp.heap.size K wr (.slice ado n capo) n (c0++conV vars i))∧Ext wp wr) (fun _ s8 _=>((vn:Int) - intOf s8).toNat)
   case atStart=>exact ⟨0,c0.length,ado,capo,Nat.zero_le _,rfl,rfl,Lib.hid ⟨by simp[conV],by simpa[conV]using HL0.out⟩,E0.out⟩
   clear HL0 E0 hp0 hp1 hp2 hp3
   case round=>
    obtain⟨i,n,ado,capo,hi,rfl,rfl,hH,hE0⟩:=hrel;have hb:=bP.ext hE0;have hp0:=hb.cell 0;have hp1:=hb.cell 1;have hp2:=hb.cell 2;have hp3:=hb.cell 3;clear hb
    rcases Nat.eq_or_lt_of_le hi with hin |hin
    ·have hlt:¬((i:Int)<(vn:Int)):=by omega
     have HF:=Lib.hid (show CoL (w.heap.size+1) K wr (.slice ado n capo) (conP (rows,vars))from by
      have h1:=hH.out.2;rw[hsp,hin,HC0.out]at h1;unfold conP
      show CoL _ _ _ _ (conR vars.length rows rows.length++conV vars vars.length)
      rw[←Hn.out,←Hrn.out]
      exact h1)
     clear hH;go_wp2;go_ret;exact⟨_,rfl,HF.out,ep.trans hE0⟩
    ·have hlt:(i:Int)<(vn:Int):=by omega
     obtain⟨y,hy⟩:∃y,vars[i]? =some y:=⟨_,List.getElem?_eq_getElem (by rw[←Hn.out];exact hin)⟩;obtain⟨g0,off,rfl,nm,l,h,c,hcell,hS, -⟩:=HAV.out i y hy;have HCL:=Lib.hid hcell;have HS:=Lib.hid hS;have HCS:=Lib.hid (conV_succ hy);clear hcell hS hy;go_wp2_with fail;refine(rqsmall3_calls 1 wr (by omega) (by omega)).mono ?_;rintro e wa ⟨v1,rfl,qa,ea⟩;go_wp2_with fail;refine(rqto3_calls _ ((1:Int):Rat) wa qa.cq (by have:=szD_of szQ_int1;omega)).mono ?_;rintro e wb ⟨v2,rfl,qb,eb⟩;obtain⟨b3,a31,n31,c31,a32,n32,c32,rfl,hf⟩:=FrQ.opn qb;obtain⟨wc,hwc,ec,bc,sc⟩:=alloc1 wb #[.int .i64 (i:Int),.bool b3,.slice a31 n31 c31,.slice a32 n32 c32] 95;have HTc:Hid (TO wa.heap.size k wc (.slice (some ⟨wb.heap.size,0,none⟩) 1 1) (oneT i)):=Lib.hid (oneT_to (S:=wa.heap.size) (k:=k) ⟨wb.heap.size,⟨(i:Int),b3,a31,n31,c31,a32,n32,c32⟩,eb.size,rfl,bc,rfl,hf.ext ec⟩ (Nat.le_trans szQ_int1 hk1));have EWc:=Lib.hid (hE0.trans (ea.trans (eb.trans ec)));have HLc:=Lib.hid (hH.out.2.ext (ea.trans (eb.trans ec)));have hnc:=hH.out.1;have hcv:=conV_len vars i;obtain⟨cs,hcs⟩:∃cs,cs=c0++conV vars i:=⟨_,rfl⟩
     have hcl:cs.length≤2*rn+2*i:=by rw[hcs,List.length_append];omega
     rw[←hcs]at HLc hnc;have HCE:=Lib.hid hcs;subst hnc;have hswc:=EWc.out.size
     have hmN:(oneT i).length≤1000:=by simp[oneT]
     have hmK:(oneT i).length*(k+1)+1≤K:=by show 1*(k+1)+1≤K;omega
     have hKk:k≤K:=by omega
     have HT0:Hid (toldS y.2.1 false (oneT i)=(if y.2.1.1 then [(2,mkV (oneT i),y.2.1.2.2.1)]else [])++(if y.2.1.2.1 then [(1,mkV (oneT i),y.2.1.2.2.2)]else [])):=Lib.hid (by simp[toldS])
     have hb:=bP.ext EWc.out;have hp0:=hb.cell 0;have hp1:=hb.cell 1;have hp2:=hb.cell 2;have hp3:=hb.cell 3;obtain⟨hc0,hc1,hc2,hc3,hc4,hc5,hc6,hc7,hc8,hc9,hc10,hc11,hc12⟩:=HCL.out wc (ep.trans EWc.out);rw[hwc]at hp0 hp1 hp2 hp3 hc0 hc1 hc2 hc3 hc4 hc5 hc6 hc7 hc8 hc9 hc10 hc11 hc12;clear hb qa qb hf bc hcs hcv hH hE0
     rcases Bool.eq_false_or_eq_true y.2.1.1 with hb1 |hb1
     ·rcases Bool.eq_false_or_eq_true y.2.1.2.1 with hb2 |hb2
      ·go_wp2_with fail;rw[←hwc];clear hp0 hp1 hp2 hp3 hc0 hc1 hc2 hc3 hc4 hc5 hc6 hc7 hc8 hc9 hc10 hc11 hc12;refine(rcons_calls k K 2 _ (oneT i) y.2.1.2.2.1 wc (HTc.out.tl (by rw[LIM_eq];omega)) (HS.out.1.ext (ep.trans EWc.out)) hmN hk hmK hKk).mono ?_;rintro e w5 ⟨v5,rfl,hc5,e5⟩;have hc5':=hc5;obtain⟨a',n',p',b',a1',n1',c1',a2',n2',c2',rfl, -⟩:=hc5';have HC5:=Lib.hid hc5;have HL5:=Lib.hid (HLc.out.ext e5);have hs5:=e5.size;have hsw0:=EWc.out.size;have e5_0:=e5;clear hc5
       go_wp2_with (first
        | (at_builtin;go_loud (refine wpList_append_Co rfl _ _ rfl wp.heap.size wc.heap.size K _ _ (cs) [(2,mkV (oneT i),y.2.1.2.2.1)] rfl (HL5.out.ext ((Ext.refl _).alloc _)) rfl (coL_one HC5.out e5.size rfl (all5 rfl rfl rfl rfl rfl)) (fun h=>by cases h) (by omega) (by simp;omega) (by rw[alloc_size];omega) ?_);intro ad0 cap0 w6 hL6 hg6;have E60:=((EWc.out.trans e5_0).alloc _).stepG hg6 HL5.out.ge;have hb:=bP.ext E60;have hp0:=hb.cell 0;have hp1:=hb.cell 1;have hp2:=hb.cell 2;have hp3:=hb.cell 3;obtain⟨hc0,hc1,hc2,hc3,hc4,hc5,hc6,hc7,hc8,hc9,hc10,hc11,hc12⟩:=HCL.out _ (ep.trans E60);clear hb)
        |fail)
       have EW6:=Lib.hid (((EWc.out.trans e5_0).alloc _).stepG hg6 HL5.out.ge:Ext wp w6);have HKB:=CoL.keepB (HL5.out.ext ((Ext.refl _).alloc _)) hg6;have HT6:=Lib.hid (((HTc.out.ext e5_0).ext ((Ext.refl _).alloc _)).keepT HKB.1);have HL6:=Lib.hid hL6;clear HKB hg6 hL6;clear hp0 hp1 hp2 hp3 hc0 hc1 hc2 hc3 hc4 hc5 hc6 hc7 hc8 hc9 hc10 hc11 hc12;refine(rcons_calls k K 1 _ (oneT i) y.2.1.2.2.2 w6 (HT6.out.tl (by rw[LIM_eq];omega)) (HS.out.2.ext (ep.trans EW6.out)) hmN hk hmK hKk).mono ?_;rintro e w7 ⟨v5,rfl,hc5,e5⟩;have hc5':=hc5;obtain⟨a',n',p',b',a1',n1',c1',a2',n2',c2',rfl, -⟩:=hc5';have HC5:=Lib.hid hc5;have HL7:=Lib.hid (HL6.out.ext e5);have hs5:=e5.size;have hsw0:=EW6.out.size;have e5_1:=e5;clear hc5
       go_wp2_with (first
        | (at_builtin;go_loud (refine wpList_append_Co rfl _ _ rfl wp.heap.size w6.heap.size K _ _ (cs++ [(2,mkV (oneT i),y.2.1.2.2.1)]) [(1,mkV (oneT i),y.2.1.2.2.2)] rfl (HL7.out.ext ((Ext.refl _).alloc _)) rfl (coL_one HC5.out e5.size rfl (all5 rfl rfl rfl rfl rfl)) (fun h=>by cases h) (by omega) (by simp;omega) (by rw[alloc_size];omega) ?_);intro ad1 cap1 w8 hL8 hg8)
        |fail)
       go_roundw
       case rel=>
        have hE7:Ext wp _:=((EW6.out.trans e5_1).alloc _).stepG hg8 HL7.out.ge;refine⟨i+1,cs.length+1+1,_,_,by omega,congrArg (Value.int .i64) (by omega),rfl,Lib.hid ⟨?_,?_⟩,hE7⟩
        ·rw[HCS.out,←List.append_assoc,←HCE.out,HT0.out]
         simp[hb1,hb2]
        ·rw[HCS.out,←List.append_assoc,←HCE.out,HT0.out];simp only[hb1,hb2]
         simpa using hL8
       case measure=>simp [intOf];omega
      ·go_wp2_with fail;rw[←hwc];clear hp0 hp1 hp2 hp3 hc0 hc1 hc2 hc3 hc4 hc5 hc6 hc7 hc8 hc9 hc10 hc11 hc12;refine(rcons_calls k K 2 _ (oneT i) y.2.1.2.2.1 wc (HTc.out.tl (by rw[LIM_eq];omega)) (HS.out.1.ext (ep.trans EWc.out)) hmN hk hmK hKk).mono ?_;rintro e w5 ⟨v5,rfl,hc5,e5⟩;have hc5':=hc5;obtain⟨a',n',p',b',a1',n1',c1',a2',n2',c2',rfl, -⟩:=hc5';have HC5:=Lib.hid hc5;have HL5:=Lib.hid (HLc.out.ext e5);have hs5:=e5.size;have hsw0:=EWc.out.size;have e5_0:=e5;clear hc5
       go_wp2_with (first
        | (at_builtin;go_loud (refine wpList_append_Co rfl _ _ rfl wp.heap.size wc.heap.size K _ _ (cs) [(2,mkV (oneT i),y.2.1.2.2.1)] rfl (HL5.out.ext ((Ext.refl _).alloc _)) rfl (coL_one HC5.out e5.size rfl (all5 rfl rfl rfl rfl rfl)) (fun h=>by cases h) (by omega) (by simp;omega) (by rw[alloc_size];omega) ?_);intro ad0 cap0 w6 hL6 hg6;have E60:=((EWc.out.trans e5_0).alloc _).stepG hg6 HL5.out.ge;have hb:=bP.ext E60;have hp0:=hb.cell 0;have hp1:=hb.cell 1;have hp2:=hb.cell 2;have hp3:=hb.cell 3;obtain⟨hc0,hc1,hc2,hc3,hc4,hc5,hc6,hc7,hc8,hc9,hc10,hc11,hc12⟩:=HCL.out _ (ep.trans E60);clear hb)
        |fail)
       have EW6:=Lib.hid (((EWc.out.trans e5_0).alloc _).stepG hg6 HL5.out.ge:Ext wp w6);have HKB:=CoL.keepB (HL5.out.ext ((Ext.refl _).alloc _)) hg6;have HT6:=Lib.hid (((HTc.out.ext e5_0).ext ((Ext.refl _).alloc _)).keepT HKB.1);have HL6:=Lib.hid hL6;clear HKB hg6 hL6;go_roundw
       case rel=>
        have hE7:Ext wp _:=EW6.out;refine⟨i+1,cs.length+1,_,_,by omega,congrArg (Value.int .i64) (by omega),rfl,Lib.hid ⟨?_,?_⟩,hE7⟩
        ·rw[HCS.out,←List.append_assoc,←HCE.out,HT0.out]
         simp[hb1,hb2]
        ·rw[HCS.out,←List.append_assoc,←HCE.out,HT0.out];simp only[hb1,hb2]
         simpa using HL6.out
       case measure=>simp [intOf];omega
     ·rcases Bool.eq_false_or_eq_true y.2.1.2.1 with hb2 |hb2
      ·go_wp2_with fail;rw[←hwc];clear hp0 hp1 hp2 hp3 hc0 hc1 hc2 hc3 hc4 hc5 hc6 hc7 hc8 hc9 hc10 hc11 hc12;refine(rcons_calls k K 1 _ (oneT i) y.2.1.2.2.2 wc (HTc.out.tl (by rw[LIM_eq];omega)) (HS.out.2.ext (ep.trans EWc.out)) hmN hk hmK hKk).mono ?_;rintro e w5 ⟨v5,rfl,hc5,e5⟩;have hc5':=hc5;obtain⟨a',n',p',b',a1',n1',c1',a2',n2',c2',rfl, -⟩:=hc5';have HC5:=Lib.hid hc5;have HL5:=Lib.hid (HLc.out.ext e5);have hs5:=e5.size;have hsw0:=EWc.out.size;have e5_0:=e5;clear hc5
       go_wp2_with (first
        | (at_builtin;go_loud (refine wpList_append_Co rfl _ _ rfl wp.heap.size wc.heap.size K _ _ (cs) [(1,mkV (oneT i),y.2.1.2.2.2)] rfl (HL5.out.ext ((Ext.refl _).alloc _)) rfl (coL_one HC5.out e5.size rfl (all5 rfl rfl rfl rfl rfl)) (fun h=>by cases h) (by omega) (by simp;omega) (by rw[alloc_size];omega) ?_);intro ad0 cap0 w6 hL6 hg6)
        |fail)
       go_roundw
       case rel=>
        have hE7:Ext wp _:=((EWc.out.trans e5_0).alloc _).stepG hg6 HL5.out.ge;refine⟨i+1,cs.length+1,_,_,by omega,congrArg (Value.int .i64) (by omega),rfl,Lib.hid ⟨?_,?_⟩,hE7⟩
        ·rw[HCS.out,←List.append_assoc,←HCE.out,HT0.out]
         simp[hb1,hb2]
        ·rw[HCS.out,←List.append_assoc,←HCE.out,HT0.out];simp only[hb1,hb2]
         simpa using hL6
       case measure=>simp [intOf];omega
      ·go_wp2;go_roundw
       case rel=>
        try rw[←hwc]
        have hE7:Ext wp _:=EWc.out;refine⟨i+1,cs.length,_,_,by omega,congrArg (Value.int .i64) (by omega),rfl,Lib.hid ⟨?_,?_⟩,hE7⟩
        ·rw[HCS.out,←List.append_assoc,←HCE.out,HT0.out]
         simp[hb1,hb2]
        ·rw[HCS.out,←List.append_assoc,←HCE.out,HT0.out];simp only[hb1,hb2]
         simpa using HLc.out
       case measure=>simp [intOf];omega
  ·have hlt:(i:Int)<(rn:Int):=by omega
   obtain⟨y,hy⟩:∃y,rows[i]? =some y:=⟨_,List.getElem?_eq_getElem (by rw[←Hrn.out];exact hin)⟩;obtain⟨g0,off,rfl,nm,l,h,ta,tn,tc,hcell,hS,hT⟩:=HAR.out i y hy;obtain⟨hc0,hc1,hc2,hc3,hc4,hc5,hc6,hc7,hc8,hc9⟩:=hcell wr (ep.trans hE0);have HS:=Lib.hid hS;have HT:=Lib.hid hT;have HCS:=Lib.hid (conR_succ (N:=vn) hy);have HNY:=Lib.hid (HNN.out y (List.mem_of_getElem? hy));obtain⟨wl,hwl,el,BR,sl⟩:=alloc1 wr #[.string nm,.bool y.1.1,.bool y.1.2.1,.bool l.b,.slice l.a1 l.n1 l.c1,.slice l.a2 l.n2 l.c2,.bool h.b,.slice h.a1 h.n1 h.c1,.slice h.a2 h.n2 h.c2,.slice ta tn tc] 97;obtain⟨w2,hw2⟩:∃w2,w2=wl.alloc (.cells #[] 95):=⟨_,rfl⟩;have e2:Ext wl w2:=hw2▸(Ext.refl _).alloc _;have hTM:TmJ wl.heap.size k w w2 (.slice (some ⟨wl.heap.size,0,none⟩) 0 0) [] (ltV vn (y.2.take 0)):=⟨hw2▸LS.empty 95 4 _ _ (Nat.le_refl _),by simp[lP,ltV],fun p hp=>by cases hp⟩;have HTM:=Lib.hid hTM
   have HW2:Hid (w2=(wr.alloc (.cells #[.string nm,.bool y.1.1,.bool y.1.2.1,.bool l.b,.slice l.a1 l.n1 l.c1,.slice l.a2 l.n2 l.c2,.bool h.b,.slice h.a1 h.n1 h.c1,.slice h.a2 h.n2 h.c2,.slice ta tn tc] 97)).alloc (.cells #[] 95)):=Lib.hid (by rw[hw2,hwl])
   have hsl:wl.heap.size=wr.heap.size+1:=sl
   have hEl:=hE0.trans el;have HH2:=Lib.hid (hH.out.2.ext el);have HNC:=Lib.hid hH.out.1;have HEL:=Lib.hid hEl;have BR2:=BR;have hrb2:=(BR.ext e2).cell 9;obtain⟨gr,hgr⟩:∃gr,gr=wr.heap.size:=⟨_,rfl⟩;clear hcell hS hT hy hH hw2 hwl hTM;go_wp2_with fail;rw[←HW2.out];rw[←hgr]at BR2 hsl ⊢;have hrb:=BR2.cell 9;clear hgr hc0 hc1 hc2 hc3 hc4 hc5 hc6 hc7 hc8 hc9 hp0 hp1 hp2 hp3 hrb hrb2;have HC:=Lib.hid (HT.out.at)
   go_loopw [6,7] (fun s6 s7 wj=>∃(j:Nat) (vs:List Value) (adq:Option Addr) (capq:Nat),j≤tn∧s7= .int .i64 (j:Int)∧s6= .slice adq vs.length capq∧Hid (∃ps,vs=(tsP ps).map tmv∧TmJ wl.heap.size k w wj (.slice adq vs.length capq) ps (ltV vn (y.2.take j)))∧Ext wl wj) (fun _ s7 _=>((tn:Int) - intOf s7).toNat)
   case atStart=>exact ⟨0,[],some ⟨wl.heap.size,0,none⟩,0,Nat.zero_le _,rfl,by simp[hsl],Lib.hid ⟨[],rfl,HTM.out⟩,e2⟩
   case round=>
    obtain⟨j,vs,adq,capq,hj,rfl,rfl,hJ,hEj⟩:=hrel;have BRj:=BR2.ext hEj;have BPj:=bP.ext (hEl.trans hEj);have hrb:=BRj.cell 9;obtain⟨ta',tn',tc',htn,hte,htb,hat⟩:=HC.out;simp only[Value.slice.injEq]at hte;obtain⟨rfl,rfl,rfl⟩:=hte
    rcases Nat.eq_or_lt_of_le hj with hjn |hjn
    ·have hlt2:¬((j:Int)<(tn:Int)):=by omega
     have HJE:Hid (∃ps,TmJ wl.heap.size k w wr (.slice adq vs.length capq) ps (ltV vn y.2)):=Lib.hid (by
      obtain⟨ps,h1,h2⟩:=hJ.out;rw[List.take_of_length_le (by omega)]at h2
      exact⟨ps,h2⟩)
     obtain⟨nt,hnt⟩:∃nt,nt=vs.length:=⟨_,rfl⟩;rw[←hnt]at HJE ⊢;have EJ:=Lib.hid (ep.trans (hEl.trans hEj));have HZ1:Hid (szD y.1.2.2.1≤5*k):=Lib.hid (szD_of HS.out.1.sz);have HZ2:Hid (szD y.1.2.2.2≤5*k):=Lib.hid (szD_of HS.out.2.sz);obtain⟨z,hz⟩:∃z,z=cmpR y.1.2.2.1 y.1.2.2.2:=⟨_,rfl⟩;have HZ:=Lib.hid hz;clear hnt hJ hz hat htb hjn hj;go_wp2_with fail;clear hrb;refine wpQ [PP.val (.pointer (some ⟨gr,1,none⟩)),PP.val (.bool y.1.1),PP.val (.bool y.1.1),PP.whn y.1.1 (PP.val (.pointer (some ⟨gr,2,none⟩))),PP.whn y.1.1 (PP.val (.bool y.1.2.1)),PP.val (.bool (y.1.1&&y.1.2.1)),PP.val (.bool (y.1.1&&y.1.2.1)),PP.whn ((y.1.1&&y.1.2.1)) (PP.val (.pointer (some ⟨gr,3,none⟩))),PP.whn ((y.1.1&&y.1.2.1)) (PP.val (.agg #[.bool l.b,.slice l.a1 l.n1 l.c1,.slice l.a2 l.n2 l.c2])),PP.whn ((y.1.1&&y.1.2.1)) (PP.frQd y.1.2.2.1),PP.whn ((y.1.1&&y.1.2.1)) (PP.val (.pointer (some ⟨gr,6,none⟩))),PP.whn ((y.1.1&&y.1.2.1)) (PP.val (.agg #[.bool h.b,.slice h.a1 h.n1 h.c1,.slice h.a2 h.n2 h.c2])),PP.whn ((y.1.1&&y.1.2.1)) (PP.frQd y.1.2.2.2),PP.whn ((y.1.1&&y.1.2.1)) (PP.val (.int .i64 z)),PP.whn ((y.1.1&&y.1.2.1)) (PP.val (.bool (z==0))),PP.val (.bool (((y.1.1&&y.1.2.1))&&(z==0)))] [] [0,1,2,3,4,5,6,7,8,9,10,11,12,13,14,15] ?_ ?_
     ·refine⟨?_,?_,?_,?_,?_,?_,?_,?_,?_,?_,?_,?_,?_,?_,?_,?_,trivial⟩
      ·intro f wz hG hp hl;simp only[OpGoal];go_simp;exact⟨_,rfl,Ext.refl _,rfl⟩
      ·intro f wz hG hp hl;have hE:Ext wr wz:=hG;have q49:=tE hp 0 0 rfl rfl rfl;have hcell:=(BRj.ext hE).cell 1;simp only[OpGoal];go_simp;exact⟨_,rfl,Ext.refl _,rfl⟩
      ·intro f wz hG hp hl;have q50:=tE hp 0 1 rfl rfl rfl;simp only[OpGoal];go_simp;exact⟨_,rfl,Ext.refl _,rfl⟩
      ·intro f wz hG hp hl;have qg:=tellV hp 0 2 rfl rfl (fun h=>by cases h);refine og_when (p:=(PP.val (.pointer (some ⟨gr,2,none⟩)):PP _).p) rfl (when_t qg) ?_;intro hg0;clear qg;simp only[OpGoal];go_simp;exact⟨_,rfl,Ext.refl _,rfl⟩
      ·intro f wz hG hp hl;have hE:Ext wr wz:=hG;have qg:=tellV hp 1 2 rfl rfl (fun h=>by cases h);refine og_when (p:=(PP.val (.bool y.1.2.1):PP _).p) rfl (when_t qg) ?_;intro hg0;clear qg
       have q52:f 3= .pointer (some ⟨gr,2,none⟩):=(tellV hp 0 3 rfl rfl (fun h=>by cases h)).1 hg0
       have hcell:=(BRj.ext hE).cell 2;simp only[OpGoal];go_simp;exact⟨_,rfl,Ext.refl _,rfl⟩
      ·intro f wz hG hp hl;have q51:=tE hp 0 2 rfl rfl rfl;have q53:=tellV hp 1 4 rfl rfl (fun h=>by cases h);change OpGoal _ _ _ f wz Ext _;exact og_pickA (P:=Tryz.prog) _ _ rfl rfl q51 (fun h=>q53.1 (by rw[h])) rfl
      ·intro f wz hG hp hl;have q54:=tE hp 0 5 rfl rfl rfl;simp only[OpGoal];go_simp;exact⟨_,rfl,Ext.refl _,rfl⟩
      ·intro f wz hG hp hl;have qg:=tellV hp 0 6 rfl rfl (fun h=>by cases h);refine og_when (p:=(PP.val (.pointer (some ⟨gr,3,none⟩)):PP _).p) rfl (when_t qg) ?_;intro hg0;clear qg;simp only[OpGoal];go_simp;exact⟨_,rfl,Ext.refl _,rfl⟩
      ·intro f wz hG hp hl;have hE:Ext wr wz:=hG;have qg:=tellV hp 1 6 rfl rfl (fun h=>by cases h);refine og_when (p:=(PP.val (.agg #[.bool l.b,.slice l.a1 l.n1 l.c1,.slice l.a2 l.n2 l.c2]):PP _).p) rfl (when_t qg) ?_;intro hg0;clear qg
       have q56:f 7= .pointer (some ⟨gr,3,none⟩):=(tellV hp 0 7 rfl rfl (fun h=>by cases h)).1 hg0
       have hbx:=BRj.ext hE;have hcell0:=hbx.cell 0;have hcell1:=hbx.cell 1;have hcell2:=hbx.cell 2;have hcell3:=hbx.cell 3;have hcell4:=hbx.cell 4;have hcell5:=hbx.cell 5;have hcell6:=hbx.cell 6;have hcell7:=hbx.cell 7;have hcell8:=hbx.cell 8;have hcell9:=hbx.cell 9;simp only[OpGoal];go_simp;exact⟨_,rfl,Ext.refl _,rfl⟩
      ·intro f wz hG hp hl;have hE:Ext wr wz:=hG;have hS:=hE.size;have qg:=tellV hp 1 6 rfl rfl (fun h=>by cases h);refine og_when (p:=(PP.frQd y.1.2.2.1:PP _).p) rfl (when_t qg) ?_;intro hg0;clear qg
       have q57:f 8= .agg #[.bool l.b,.slice l.a1 l.n1 l.c1,.slice l.a2 l.n2 l.c2]:=(tellV hp 0 8 rfl rfl (fun h=>by cases h)).1 hg0
       change OpGoal _ _ _ f wz Ext _;refine oC #[f 8] Tryz.func31 rfl rfl ?_;rw[q57];refine(rqofR_calls _ y.1.2.2.1 k _ (HS.out.1.ext (EJ.out.trans hE)) (by omega)).mono ?_;rintro e w' ⟨v',rfl,h1,h2⟩;exact⟨v',rfl,h2,h1.mono hS⟩
      ·intro f wz hG hp hl;have qg:=tellV hp 0 6 rfl rfl (fun h=>by cases h);refine og_when (p:=(PP.val (.pointer (some ⟨gr,6,none⟩)):PP _).p) rfl (when_t qg) ?_;intro hg0;clear qg;simp only[OpGoal];go_simp;exact⟨_,rfl,Ext.refl _,rfl⟩
      ·intro f wz hG hp hl;have hE:Ext wr wz:=hG;have qg:=tellV hp 1 6 rfl rfl (fun h=>by cases h);refine og_when (p:=(PP.val (.agg #[.bool h.b,.slice h.a1 h.n1 h.c1,.slice h.a2 h.n2 h.c2]):PP _).p) rfl (when_t qg) ?_;intro hg0;clear qg
       have q59:f 10= .pointer (some ⟨gr,6,none⟩):=(tellV hp 0 10 rfl rfl (fun h=>by cases h)).1 hg0
       have hbx:=BRj.ext hE;have hcell0:=hbx.cell 0;have hcell1:=hbx.cell 1;have hcell2:=hbx.cell 2;have hcell3:=hbx.cell 3;have hcell4:=hbx.cell 4;have hcell5:=hbx.cell 5;have hcell6:=hbx.cell 6;have hcell7:=hbx.cell 7;have hcell8:=hbx.cell 8;have hcell9:=hbx.cell 9;simp only[OpGoal];go_simp;exact⟨_,rfl,Ext.refl _,rfl⟩
      ·intro f wz hG hp hl;have hE:Ext wr wz:=hG;have hS:=hE.size;have qg:=tellV hp 2 6 rfl rfl (fun h=>by cases h);refine og_when (p:=(PP.frQd y.1.2.2.2:PP _).p) rfl (when_t qg) ?_;intro hg0;clear qg
       have q60:f 11= .agg #[.bool h.b,.slice h.a1 h.n1 h.c1,.slice h.a2 h.n2 h.c2]:=(tellV hp 0 11 rfl rfl (fun h=>by cases h)).1 hg0
       change OpGoal _ _ _ f wz Ext _;refine oC #[f 11] Tryz.func31 rfl rfl ?_;rw[q60];refine(rqofR_calls _ y.1.2.2.2 k _ (HS.out.2.ext (EJ.out.trans hE)) (by omega)).mono ?_;rintro e w' ⟨v',rfl,h1,h2⟩;exact⟨v',rfl,h2,h1.mono hS⟩
      ·intro f wz hG hp hl;have hE:Ext wr wz:=hG;have hS:=hE.size;have qg:=tellV hp 3 6 rfl rfl (fun h=>by cases h);refine og_when (p:=(PP.val (.int .i64 z):PP _).p) rfl (when_t qg) ?_;intro hg0;clear qg;have q58:=(tellV hp 0 9 rfl rfl (fun _=>hE)).1 hg0;have q61:=(tellV hp 1 12 rfl rfl (fun _=>hE)).1 hg0;change OpGoal _ _ _ f wz Ext _;refine oC #[f 9,f 12] Tryz.func29 rfl rfl ?_;refine(rqcmp3_calls _ _ y.1.2.2.1 y.1.2.2.2 (5*k) (5*k) _ q58.cq q61.cq HZ1.out HZ2.out (by omega)).mono ?_;rintro e w' ⟨rfl,h2⟩
       exact⟨_,rfl,h2,by rw[HZ.out]<;>rfl⟩
      ·intro f wz hG hp hl;have qg:=tellV hp 1 6 rfl rfl (fun h=>by cases h);refine og_when (p:=(PP.val (.bool (z==0)):PP _).p) rfl (when_t qg) ?_;intro hg0;clear qg
       have q62:f 13= .int .i64 z:=(tellV hp 0 13 rfl rfl (fun h=>by cases h)).1 hg0
       simp only[OpGoal];go_simp;exact⟨_,rfl,Ext.refl _,rfl⟩
      ·intro f wz hG hp hl;have q55:=tE hp 0 6 rfl rfl rfl;have q63:=tellV hp 1 14 rfl rfl (fun h=>by cases h);change OpGoal _ _ _ f wz Ext _;exact og_pickA (P:=Tryz.prog) _ _ rfl rfl q55 (fun h=>q63.1 (by rw[h])) rfl
     ·intro f wq hG hp;have hE:Ext wr wq:=ChgS.nil hG
      have q64:f 15= .bool (((y.1.1&&y.1.2.1))&&(z==0)):=endV hp 15 (by decide) rfl (fun h=>by cases h)
      try simp only[q64]
      clear hp;have hEq:=hEj.trans hE;obtain⟨g,hg⟩:∃g,g=((y.1.1&&y.1.2.1)&&(z==0)):=⟨_,rfl⟩
      have HTD:Hid (toldS y.1 true (ltV vn y.2)=if g=true then [(3,mkV (ltV vn y.2),y.1.2.2.1)]else(if y.1.1 then [(2,mkV (ltV vn y.2),y.1.2.2.1)]else [])++(if y.1.2.1 then [(1,mkV (ltV vn y.2),y.1.2.2.2)]else [])):=Lib.hid (by rw[hg,HZ.out,cmpR_zero];rfl)
      rw[←hg];have HLq:=Lib.hid (HH2.out.ext hEq);have EWq:=Lib.hid (hEl.trans hEq);have HJq:Hid (∃ps,TmJ wl.heap.size k w wq (.slice adq nt capq) ps (ltV vn y.2)):=Lib.hid (let ⟨ps,h⟩:=HJE.out;⟨ps,h.ext hE⟩);have BRq:=BRj.ext hE;have hmN:(ltV vn y.2).length≤1000:=Nat.le_trans (ltV_len _ _) HNY.out;have hmK:(ltV vn y.2).length*(k+1)+1≤K:=Nat.le_trans (Nat.add_le_add_right (Nat.mul_le_mul_right (k+1) hmN) 1) (by omega)
      have hKk:k≤K:=by omega
      have hcl:=conR_len vn rows i;obtain⟨cs,hcs⟩:∃cs,cs=conR vn rows i:=⟨_,rfl⟩;have hnc:=HNC.out;rw[←hcs]at HLq hnc hcl;have HCE:=Lib.hid hcs;subst hnc;have hwq:=EWq.out.size;clear hg hcs hE hEq BRj
      cases g with
      |true=>
       have hbr:=BRq;have ha0:=hbr.cell 0;have ha1:=hbr.cell 1;have ha2:=hbr.cell 2;have ha3:=hbr.cell 3;have ha4:=hbr.cell 4;have ha5:=hbr.cell 5;have ha6:=hbr.cell 6;have ha7:=hbr.cell 7;have ha8:=hbr.cell 8;have ha9:=hbr.cell 9;clear hbr;go_wp2_with fail;refine(rcons_calls k K 3 _ (ltV vn y.2) y.1.2.2.1 wq (let ⟨ps,h⟩:=HJq.out;h.tl (ep.trans EWq.out)) (HS.out.1.ext (ep.trans EWq.out)) hmN hk hmK hKk).mono ?_;rintro e w5 ⟨v5,rfl,hc5,e5⟩;have hc5':=hc5;obtain⟨a',n',p',b',a1',n1',c1',a2',n2',c2',rfl, -⟩:=hc5';have HC5:=Lib.hid hc5;have HL5:=Lib.hid (HLq.out.ext e5);have hs5:=e5.size;clear hc5 ha0 ha1 ha2 ha3 ha4 ha5 ha6 ha7 ha8 ha9
       go_wp2_with (first
        | (at_builtin;go_loud (refine wpList_append_Co rfl _ _ rfl wp.heap.size wq.heap.size K _ _ cs [(3,mkV (ltV vn y.2),y.1.2.2.1)] rfl (HL5.out.ext ((Ext.refl _).alloc _)) rfl (coL_one HC5.out e5.size rfl (all5 rfl rfl rfl rfl rfl)) (fun h=>by cases h) (by omega) (by simp;omega) (by rw[alloc_size];omega) ?_);intro ad' cap' w7 hL7 hg7)
        |fail)
       go_roundw
       case rel=>
        have hE7:Ext wp w7:=((EWq.out.trans e5).alloc _).stepG hg7 HL5.out.ge;refine⟨i+1,cs.length+1,ad',cap',by omega,congrArg (Value.int .i64) (by omega),rfl,Lib.hid ⟨?_,?_⟩,hE7⟩
        ·rw[HCS.out,←HCE.out,HTD.out,List.length_append]
         rfl
        ·rw[HCS.out,←HCE.out,HTD.out];exact hL7
       case measure=>simp [intOf];omega
      |false=>
       rcases Bool.eq_false_or_eq_true y.1.1 with hb1 |hb1
       ·rcases Bool.eq_false_or_eq_true y.1.2.1 with hb2 |hb2
        ·have hbr:=BRq;have ha0:=hbr.cell 0;have ha1:=hbr.cell 1;have ha2:=hbr.cell 2;have ha3:=hbr.cell 3;have ha4:=hbr.cell 4;have ha5:=hbr.cell 5;have ha6:=hbr.cell 6;have ha7:=hbr.cell 7;have ha8:=hbr.cell 8;have ha9:=hbr.cell 9;clear hbr;go_wp2_with fail;refine(rcons_calls k K 2 _ (ltV vn y.2) y.1.2.2.1 wq (let ⟨ps,h⟩:=HJq.out;h.tl (ep.trans EWq.out)) (HS.out.1.ext (ep.trans EWq.out)) hmN hk hmK hKk).mono ?_;rintro e w5 ⟨v5,rfl,hc5,e5⟩;have hc5':=hc5;obtain⟨a',n',p',b',a1',n1',c1',a2',n2',c2',rfl, -⟩:=hc5';have HC5:=Lib.hid hc5;have HL5:=Lib.hid (HLq.out.ext e5);have hs5:=e5.size;have hsw0:=EWq.out.size;have e5_0:=e5;clear hc5 ha0 ha1 ha2 ha3 ha4 ha5 ha6 ha7 ha8 ha9
         go_wp2_with (first
          | (at_builtin;go_loud (refine wpList_append_Co rfl _ _ rfl wp.heap.size wq.heap.size K _ _ (cs) [(2,mkV (ltV vn y.2),y.1.2.2.1)] rfl (HL5.out.ext ((Ext.refl _).alloc _)) rfl (coL_one HC5.out e5.size rfl (all5 rfl rfl rfl rfl rfl)) (fun h=>by cases h) (by omega) (by simp;omega) (by rw[alloc_size];omega) ?_);intro ad0 cap0 w6 hL6 hg6;have hkb:=CoL.keepB (HL5.out.ext ((Ext.refl _).alloc _)) hg6;have BR6:=hkb.2 _ _ _ (by decide) ((BRq.ext e5_0).ext ((Ext.refl _).alloc _));have ha2:=BR6.cell 2;have ha6:=BR6.cell 6;have ha7:=BR6.cell 7;have ha8:=BR6.cell 8;clear hkb)
          |fail)
         have EW6:=Lib.hid (((EWq.out.trans e5_0).alloc _).stepG hg6 HL5.out.ge:Ext wp w6);have HKB:=CoL.keepB (HL5.out.ext ((Ext.refl _).alloc _)) hg6;have HJ6:Hid (∃ps,TmJ wl.heap.size k w w6 (.slice adq nt capq) ps (ltV vn y.2)):=Lib.hid (let ⟨ps,h⟩:=HJq.out;⟨ps,((h.ext e5_0).ext ((Ext.refl _).alloc _)).keepT HKB.1⟩);have HL6:=Lib.hid hL6;clear HKB hg6 hL6;have hbr:=BR6;have ha0:=hbr.cell 0;have ha1:=hbr.cell 1;have ha2:=hbr.cell 2;have ha3:=hbr.cell 3;have ha4:=hbr.cell 4;have ha5:=hbr.cell 5;have ha6:=hbr.cell 6;have ha7:=hbr.cell 7;have ha8:=hbr.cell 8;have ha9:=hbr.cell 9;clear hbr;refine(rcons_calls k K 1 _ (ltV vn y.2) y.1.2.2.2 w6 (let ⟨ps,h⟩:=HJ6.out;h.tl (ep.trans EW6.out)) (HS.out.2.ext (ep.trans EW6.out)) hmN hk hmK hKk).mono ?_;rintro e w7 ⟨v5,rfl,hc5,e5⟩;have hc5':=hc5;obtain⟨a',n',p',b',a1',n1',c1',a2',n2',c2',rfl, -⟩:=hc5';have HC5:=Lib.hid hc5;have HL7:=Lib.hid (HL6.out.ext e5);have hs5:=e5.size;have hsw0:=EW6.out.size;have e5_1:=e5;clear hc5 ha0 ha1 ha2 ha3 ha4 ha5 ha6 ha7 ha8 ha9
         go_wp2_with (first
          | (at_builtin;go_loud (refine wpList_append_Co rfl _ _ rfl wp.heap.size w6.heap.size K _ _ (cs++ [(2,mkV (ltV vn y.2),y.1.2.2.1)]) [(1,mkV (ltV vn y.2),y.1.2.2.2)] rfl (HL7.out.ext ((Ext.refl _).alloc _)) rfl (coL_one HC5.out e5.size rfl (all5 rfl rfl rfl rfl rfl)) (fun h=>by cases h) (by omega) (by simp;omega) (by rw[alloc_size];omega) ?_);intro ad1 cap1 w8 hL8 hg8)
          |fail)
         go_roundw
         case rel=>
          have hE7:Ext wp _:=((EW6.out.trans e5_1).alloc _).stepG hg8 HL7.out.ge;refine⟨i+1,cs.length+1+1,_,_,by omega,congrArg (Value.int .i64) (by omega),rfl,Lib.hid ⟨?_,?_⟩,hE7⟩
          ·rw[HCS.out,←HCE.out,HTD.out]
           simp[hb1,hb2]
          ·rw[HCS.out,←HCE.out,HTD.out];simp only[hb1,hb2]
           simpa using hL8
         case measure=>simp [intOf];omega
        ·have hbr:=BRq;have ha0:=hbr.cell 0;have ha1:=hbr.cell 1;have ha2:=hbr.cell 2;have ha3:=hbr.cell 3;have ha4:=hbr.cell 4;have ha5:=hbr.cell 5;have ha6:=hbr.cell 6;have ha7:=hbr.cell 7;have ha8:=hbr.cell 8;have ha9:=hbr.cell 9;clear hbr;go_wp2_with fail;refine(rcons_calls k K 2 _ (ltV vn y.2) y.1.2.2.1 wq (let ⟨ps,h⟩:=HJq.out;h.tl (ep.trans EWq.out)) (HS.out.1.ext (ep.trans EWq.out)) hmN hk hmK hKk).mono ?_;rintro e w5 ⟨v5,rfl,hc5,e5⟩;have hc5':=hc5;obtain⟨a',n',p',b',a1',n1',c1',a2',n2',c2',rfl, -⟩:=hc5';have HC5:=Lib.hid hc5;have HL5:=Lib.hid (HLq.out.ext e5);have hs5:=e5.size;have hsw0:=EWq.out.size;have e5_0:=e5;clear hc5 ha0 ha1 ha2 ha3 ha4 ha5 ha6 ha7 ha8 ha9
         go_wp2_with (first
          | (at_builtin;go_loud (refine wpList_append_Co rfl _ _ rfl wp.heap.size wq.heap.size K _ _ (cs) [(2,mkV (ltV vn y.2),y.1.2.2.1)] rfl (HL5.out.ext ((Ext.refl _).alloc _)) rfl (coL_one HC5.out e5.size rfl (all5 rfl rfl rfl rfl rfl)) (fun h=>by cases h) (by omega) (by simp;omega) (by rw[alloc_size];omega) ?_);intro ad0 cap0 w6 hL6 hg6;have hkb:=CoL.keepB (HL5.out.ext ((Ext.refl _).alloc _)) hg6;have BR6:=hkb.2 _ _ _ (by decide) ((BRq.ext e5_0).ext ((Ext.refl _).alloc _));have ha2:=BR6.cell 2;have ha6:=BR6.cell 6;have ha7:=BR6.cell 7;have ha8:=BR6.cell 8;clear hkb)
          |fail)
         have EW6:=Lib.hid (((EWq.out.trans e5_0).alloc _).stepG hg6 HL5.out.ge:Ext wp w6);have HKB:=CoL.keepB (HL5.out.ext ((Ext.refl _).alloc _)) hg6;have HJ6:Hid (∃ps,TmJ wl.heap.size k w w6 (.slice adq nt capq) ps (ltV vn y.2)):=Lib.hid (let ⟨ps,h⟩:=HJq.out;⟨ps,((h.ext e5_0).ext ((Ext.refl _).alloc _)).keepT HKB.1⟩);have HL6:=Lib.hid hL6;clear HKB hg6 hL6;go_roundw
         case rel=>
          have hE7:Ext wp _:=EW6.out;refine⟨i+1,cs.length+1,_,_,by omega,congrArg (Value.int .i64) (by omega),rfl,Lib.hid ⟨?_,?_⟩,hE7⟩
          ·rw[HCS.out,←HCE.out,HTD.out]
           simp[hb1,hb2]
          ·rw[HCS.out,←HCE.out,HTD.out];simp only[hb1,hb2]
           simpa using HL6.out
         case measure=>simp [intOf];omega
       ·rcases Bool.eq_false_or_eq_true y.1.2.1 with hb2 |hb2
        ·have hbr:=BRq;have ha0:=hbr.cell 0;have ha1:=hbr.cell 1;have ha2:=hbr.cell 2;have ha3:=hbr.cell 3;have ha4:=hbr.cell 4;have ha5:=hbr.cell 5;have ha6:=hbr.cell 6;have ha7:=hbr.cell 7;have ha8:=hbr.cell 8;have ha9:=hbr.cell 9;clear hbr;go_wp2_with fail;refine(rcons_calls k K 1 _ (ltV vn y.2) y.1.2.2.2 wq (let ⟨ps,h⟩:=HJq.out;h.tl (ep.trans EWq.out)) (HS.out.2.ext (ep.trans EWq.out)) hmN hk hmK hKk).mono ?_;rintro e w5 ⟨v5,rfl,hc5,e5⟩;have hc5':=hc5;obtain⟨a',n',p',b',a1',n1',c1',a2',n2',c2',rfl, -⟩:=hc5';have HC5:=Lib.hid hc5;have HL5:=Lib.hid (HLq.out.ext e5);have hs5:=e5.size;have hsw0:=EWq.out.size;have e5_0:=e5;clear hc5 ha0 ha1 ha2 ha3 ha4 ha5 ha6 ha7 ha8 ha9
         go_wp2_with (first
          | (at_builtin;go_loud (refine wpList_append_Co rfl _ _ rfl wp.heap.size wq.heap.size K _ _ (cs) [(1,mkV (ltV vn y.2),y.1.2.2.2)] rfl (HL5.out.ext ((Ext.refl _).alloc _)) rfl (coL_one HC5.out e5.size rfl (all5 rfl rfl rfl rfl rfl)) (fun h=>by cases h) (by omega) (by simp;omega) (by rw[alloc_size];omega) ?_);intro ad0 cap0 w6 hL6 hg6)
          |fail)
         go_roundw
         case rel=>
          have hE7:Ext wp _:=((EWq.out.trans e5_0).alloc _).stepG hg6 HL5.out.ge;refine⟨i+1,cs.length+1,_,_,by omega,congrArg (Value.int .i64) (by omega),rfl,Lib.hid ⟨?_,?_⟩,hE7⟩
          ·rw[HCS.out,←HCE.out,HTD.out]
           simp[hb1,hb2]
          ·rw[HCS.out,←HCE.out,HTD.out];simp only[hb1,hb2]
           simpa using hL6
         case measure=>simp [intOf];omega
        ·have hbr:=BRq;have ha0:=hbr.cell 0;have ha1:=hbr.cell 1;have ha2:=hbr.cell 2;have ha3:=hbr.cell 3;have ha4:=hbr.cell 4;have ha5:=hbr.cell 5;have ha6:=hbr.cell 6;have ha7:=hbr.cell 7;have ha8:=hbr.cell 8;have ha9:=hbr.cell 9;clear hbr;go_wp2;go_roundw
         case rel=>
          have hE7:Ext wp _:=EWq.out;refine⟨i+1,cs.length,_,_,by omega,congrArg (Value.int .i64) (by omega),rfl,Lib.hid ⟨?_,?_⟩,hE7⟩
          ·rw[HCS.out,←HCE.out,HTD.out]
           simp[hb1,hb2]
          ·rw[HCS.out,←HCE.out,HTD.out];simp only[hb1,hb2]
           simpa using HLq.out
         case measure=>simp [intOf];omega
    ·have hlt2:(j:Int)<(tn:Int):=by omega
     obtain⟨x,hx⟩:∃x,y.2[j]? =some x:=⟨_,List.getElem?_eq_getElem (by rw[←htn];exact hjn)⟩;obtain⟨gt,ot,rfl,b,a1,m1,c1,a2,m2,c2,hxc⟩:=hat j x hx;have HXC:=Lib.hid hxc;have EJ:=Lib.hid (ep.trans (hEl.trans hEj));have HLV:=Lib.hid (ltV_snoc (N:=vn) hx)
     have hj1000:j<1000:=by have:=HNY.out;omega
     obtain⟨d,hd⟩:∃d,d=decide (x.1<(vn:Int)):=⟨_,rfl⟩;have HD:=Lib.hid hd;clear hd hx hxc hat htn htb;go_wp2_with fail;clear hrb;refine wpQ [PP.val (.pointer (some ⟨gr,9,none⟩)),PP.val (.slice (some ⟨gt,ot,none⟩) tn tc),PP.val (.int .i64 (j:Int)),PP.val (.pointer (some ⟨gt,ot+j*4,none⟩)),PP.val (.pointer (some ⟨gt,ot+j*4,none⟩)),PP.val (.int .i64 x.1),PP.val (.pointer (some ⟨w.heap.size,3,none⟩)),PP.val (.slice va vn vc),PP.val (.int .i64 (vn:Int)),PP.val (.bool d)] [] [0,1,2,3,4,5,6,7,8,9] ?_ ?_
     ·refine⟨?_,?_,?_,?_,?_,?_,?_,?_,?_,?_,trivial⟩
      ·intro f wz hG hp hl;simp only[OpGoal];go_simp;exact⟨_,rfl,Ext.refl _,rfl⟩
      ·intro f wz hG hp hl;have hE:Ext wr wz:=hG;have q31:=tE hp 0 0 rfl rfl rfl;have hcell:=(BRj.ext hE).cell 9;simp only[OpGoal];go_simp;exact⟨_,rfl,Ext.refl _,rfl⟩
      ·intro f wz hG hp hl;simp only[OpGoal];go_simp;exact⟨_,rfl,Ext.refl _,rfl⟩
      ·intro f wz hG hp hl;have q32:=tE hp 0 1 rfl rfl rfl;have q33:=tE hp 1 2 rfl rfl rfl;simp only[OpGoal];go_simp;exact⟨_,rfl,Ext.refl _,rfl⟩
      ·intro f wz hG hp hl;have q34:=tE hp 0 3 rfl rfl rfl;simp only[OpGoal];go_simp;exact⟨_,rfl,Ext.refl _,rfl⟩
      ·intro f wz hG hp hl;have hE:Ext wr wz:=hG;have q35:=tE hp 0 4 rfl rfl rfl;have hz0:=(HXC.out _ (EJ.out.trans hE)).1;simp only[OpGoal];go_simp;exact⟨_,rfl,Ext.refl _,rfl⟩
      ·intro f wz hG hp hl;simp only[OpGoal];go_simp;exact⟨_,rfl,Ext.refl _,rfl⟩
      ·intro f wz hG hp hl;have hE:Ext wr wz:=hG;have q37:=tE hp 0 6 rfl rfl rfl;have hcell:=(BPj.ext hE).cell 3;simp only[OpGoal];go_simp;exact⟨_,rfl,Ext.refl _,rfl⟩
      ·intro f wz hG hp hl;have q38:=tE hp 0 7 rfl rfl rfl;simp only[OpGoal];go_simp;exact⟨_,rfl,Ext.refl _,rfl⟩
      ·intro f wz hG hp hl;have q36:=tE hp 0 5 rfl rfl rfl;have q39:=tE hp 1 8 rfl rfl rfl;simp only[OpGoal];go_simp
       exact⟨_,rfl,Ext.refl _,by rw[HD.out]<;>rfl⟩
     ·intro f wq hG hp;have hE:Ext wr wq:=ChgS.nil hG
      have q40:f 9= .bool d:=endV hp 9 (by decide) rfl (fun h=>by cases h)
      try simp only[q40]
      clear hp;have hEq:=hEj.trans hE
      cases d with
      |false=>
       have hx0:¬x.1<(vn:Int):=of_decide_eq_false HD.out.symm
       have HJ1:Hid (∃ps,vs=(tsP ps).map tmv∧TmJ wl.heap.size k w wq (.slice adq vs.length capq) ps (ltV vn (y.2.take (j+1)))):=Lib.hid (by
        obtain⟨ps,h1,h2⟩:=hJ.out;rw[HLV.out,if_neg hx0]
        exact⟨ps,h1,h2.ext hE⟩)
       clear hJ hx0;go_wp2;go_roundw
       case rel=>exact ⟨j+1,vs,adq,capq,by omega,congrArg (Value.int .i64) (by omega),rfl,HJ1.out,hEq⟩
       case measure=>simp [intOf];omega
      |true=>
       have hx0:x.1<(vn:Int):=of_decide_eq_true HD.out.symm;have BRq:=BRj.ext hE;have hrb:=BRq.cell 9;have EQ:=ep.trans (hEl.trans hEq);obtain⟨hz0,hz1,hz2,hz3,hIR⟩:=HXC.out wq EQ;have HIR:=Lib.hid (HXC.out)
       have hLV:ltV vn (y.2.take (j+1))=ltV vn (y.2.take j)++ [x]:=by rw[HLV.out,if_pos hx0]
       have HLV2:=Lib.hid hLV;obtain⟨ps,hps,hTJ⟩:=hJ.out
       have hlen:vs.length≤1000:=by
        have h1:=hTJ.2.1
        have h2:(lP ps).length≤j:=by
         rw[h1];exact Nat.le_trans (ltV_len _ _) (by rw[List.length_take];omega)
        have h3:vs.length=(lP ps).length:=by rw[hps];unfold tsP lP;simp
        omega
       have HPS:=Lib.hid hps;have HLS:=Lib.hid (show LS 95 4 wl.heap.size wq (.slice adq vs.length capq) vs from by rw[hps];rw[hps]at hTJ;exact hTJ.1.ext hE);have HTJ:=Lib.hid (hTJ.2.1);have HTR:=Lib.hid hTJ.2.2;have HIX:=Lib.hid (HXC.out w (Ext.refl _)).2.2.2.2;have hqs:=hEq.size;have hwl2:=e2.size;clear hJ hx0 hIR hLV hps hTJ
       go_wp2_with (first
        | (at_builtin;go_loud (refine wpList_append_LS rfl _ _ 31 rfl 95 4 64 wl.heap.size Tryz.underlying31 (by kernel_rfl) (by kernel_rfl) (by omega) _ vs rfl (HLS.out.ext ((Ext.refl _).alloc _)) ⟨wq.heap.size,0,none⟩ #[.int .i64 x.1,.bool b,.slice a1 m1 c1,.slice a2 m2 c2] rfl rfl (news_new _ _ _) (by kernel_rfl) (by omega) (by omega) (by rw[alloc_size];omega) ?_);intro g' cap2' w7 hls7 hg7 hwh7 hlt7)
        |fail)
       go_roundw
       case rel=>
        have hA:=(Ext.refl wq).alloc (.cells #[.int .i64 x.1,.bool b,.slice a1 m1 c1,.slice a2 m2 c2] 95);have hE7:Ext wl w7:=(hEq.trans hA).stepG hg7 HLS.out.ge;refine⟨j+1,vs++ [.agg #[.int .i64 x.1,.bool b,.slice a1 m1 c1,.slice a2 m2 c2]],some ⟨g',0,none⟩,cap2',by omega,congrArg (Value.int .i64) (by omega),by simp,Lib.hid ⟨ps++ [(⟨x.1,b,a1,m1,c1,a2,m2,c2⟩,x.2)],?_,?_,?_,fun p hp=> ?_⟩,hE7⟩
        ·rw[HPS.out,tsP_snoc,List.map_append]
         rfl
        ·have e:(tsP (ps++ [(⟨x.1,b,a1,m1,c1,a2,m2,c2⟩,x.2)])).map tmv=vs++ [.agg #[.int .i64 x.1,.bool b,.slice a1 m1 c1,.slice a2 m2 c2]]:=by
          rw[HPS.out,tsP_snoc,List.map_append]
          rfl
         rw[e,List.length_append];exact hls7
        ·rw[lP_snoc,HTJ.out,HLV2.out]
        ·rcases List.mem_append.1 hp with hp |hp
         ·exact HTR.out p hp
         ·rw[List.mem_singleton]at hp;subst hp;exact HIX.out
       case measure=>simp [intOf];omega
end Go.Proofs.YtbmnlaepfckmkaaGreat
