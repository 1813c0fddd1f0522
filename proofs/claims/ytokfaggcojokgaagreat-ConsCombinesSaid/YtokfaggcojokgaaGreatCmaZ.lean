/-
 The documents' vectors: a times one, and another one (Axpy).
-/
import Derived.Test.YtokfaggcojokgaaGreatVrfZ
import Derived.Test.YtokfaggcojokgaaGreatVfcZ
import Derived.Laws.MakeOwn
import Derived.Test.YtokfaggcojokgaaGreatComZ
namespace Go.Proofs.YtokfaggcojokgaaGreat
set_option maxRecDepth 100000
set_option maxHeartbeats 1000000
open Go.RowKit
set_option linter.unusedVariables false
set_option linter.unusedSimpArgs false
theorem TL.news{k:Nat}{w:World}{v:Value}{l:List (Int×Rat)}(h:TL k w v l):∃ad m cap,v= .slice ad m cap∧m=l.length∧m≤9223372036854775807∧∃ps:Ps,ps.length=m∧lP ps=l∧(∀p∈ps,IsR w (ratv p.1) p.2 k)∧((ad=Option.none∧m=0)∨∃a,ad=some a∧∀wz,Ext w wz→∀(j:Nat) (u:Value),(flatS ((tsP ps).map tmv))[j]? =some u→wz.cell? (a.add j)=some u):=by
 obtain⟨ad,m,cap,hm,rfl,hm1,hat⟩:=h.at
 cases ad with
 |none=>
  have h0:l=[]:=by
   match l,hat with
   | [],_=>rfl
   |x::l,hat=>
    obtain⟨g,off,h, -⟩:=hat 0 x rfl
    cases h
  subst h0;exact⟨_,_,_,rfl,hm,hm1,[],hm.symm,rfl,(fun p hp=>by cases hp),.inl ⟨rfl,hm⟩⟩
 |some a=>
  obtain⟨g,off,sp⟩:=a
  obtain⟨ps,hps,hat2⟩:=exists_list (p:=fun i (y:TmC×Rat)=>∃x,l[i]? =some x∧y.1.c=x.1∧y.2=x.2∧IsR w (ratv y.1) y.2 k∧sp=Option.none∧∀wz,Ext w wz→∀(j:Nat) (u:Value),(#[.int .i64 y.1.c,.bool y.1.b,.slice y.1.a1 y.1.n1 y.1.c1,.slice y.1.a2 y.1.n2 y.1.c2]:Array Value)[j]? =some u→wz.cell? ⟨g,off+(i*4+j),Option.none⟩=some u) m (fun i hi=>by
   obtain⟨x,hx⟩:∃x,l[i]? =some x:=⟨_,List.getElem?_eq_getElem (by omega)⟩;obtain⟨g',off',h1,b,a1,n1,c1,a2,n2,c2,hc⟩:=hat i x hx
   cases h1
   refine⟨(⟨x.1,b,a1,n1,c1,a2,n2,c2⟩,x.2),x,hx,rfl,rfl,(hc w (Ext.refl w)).2.2.2.2,rfl,fun wz hz j u hj=> ?_⟩;obtain⟨k0,k1,k2,k3,k4⟩:=hc wz hz
   match j,hj with
   |0,hj=>cases hj;exact k0
   |1,hj=>cases hj;exact k1
   |2,hj=>cases hj;exact k2
   |3,hj=>cases hj;exact k3
   |j+4,hj=>simp at hj)
  have hlP:lP ps=l:=by
   apply List.ext_getElem?
   intro i;unfold lP;rw[List.getElem?_map]
   cases hi:ps[i]? with
   |none=>
    rw[Option.map_none]
    have:=List.getElem?_eq_none_iff.1 hi
    exact(List.getElem?_eq_none (by omega)).symm
   |some y=>
    obtain⟨x,h1,h2,h3, -⟩:=hat2 i y hi;rw[Option.map_some,h1,h2,h3]
  have hR:∀p∈ps,IsR w (ratv p.1) p.2 k:=fun p hp=>by
   obtain⟨i,hi,rfl⟩:=List.mem_iff_getElem.1 hp;obtain⟨x,h1,h2,h3,h4, -⟩:=hat2 i _ (List.getElem?_eq_getElem hi);exact h4
  refine⟨_,_,_,rfl,hm,hm1,ps,hps,hlP,hR,.inr ⟨_,rfl,fun wz hz=> ?_⟩⟩
  have hcell:∀(j:Nat) (u:Value),(flatS ((tsP ps).map tmv))[j]? =some u→wz.cell? ⟨g,off+j,Option.none⟩=some u:=by
   refine flatS_cells (n:=4) (by omega) (strN_tmv _) (p:=fun j u=>wz.cell? ⟨g,off+j,Option.none⟩=some u) fun i cs hi r u hr=> ?_
   unfold tsP at hi;rw[List.getElem?_map,List.getElem?_map]at hi
   cases hpi:ps[i]? with
   |none=>rw [hpi]at hi;cases hi
   |some y=>
    rw[hpi]at hi;simp only[Option.map_some,Option.some.injEq]at hi;unfold tmv at hi
    cases hi
    obtain⟨x, -, -, -, -, -,h5⟩:=hat2 i y hpi;exact h5 wz hz r u hr
  intro j u hj
  have h0:0<m:=by
   have:=(List.getElem?_eq_some_iff.1 hj).1
   rw[flatS_len (strN_tmv _).size,List.length_map]at this;unfold tsP at this;rw[List.length_map,hps]at this
   omega
  obtain⟨y,hy⟩:∃y,ps[0]? =some y:=⟨_,List.getElem?_eq_getElem (by omega)⟩;obtain⟨x, -, -, -, -,h5, -⟩:=hat2 0 y hy;rw[h5,Addr.add_lit];exact hcell j u hj
theorem news_one{ps:List TmC}:∀u∈flatS (ps.map tmv),u.oneCell'=true:=fun u hu=>by
 obtain⟨v,hv,hu⟩:=List.mem_flatMap.1 hu;obtain⟨cs,rfl, -,h1⟩:=strN_tmv ps v hv;exact Array.all_eq_true'.1 h1 u (Array.mem_toList_iff.1 hu)
theorem own_some{B e size n:Nat}{w:World}{v:Value}{xs:List Value}(h:w.ownsRow B e size v n xs)(hv:v≠ .slice none 0 0):∃g cap,v= .slice (some ⟨g,0,none⟩) n cap:=by
 rcases h.2 with⟨h1,h2⟩ |⟨g,cap,cur,h1, -⟩
 ·exact absurd h1 hv
 ·exact⟨g,cap,h1⟩
set_option maxHeartbeats 8000000 in
theorem axpy5_calls(k K:Nat)(av v u:Value)(a:Rat)(l m:List (Int×Rat))(w:World)(ha:IsR w av a k)(hl:TL k w v l)(hm:TL k w u m)(h1:k+k≤K)(h2:K≤1000000)(hn:m.length+l.length≤1000):
  Calls Tryz.prog 85 #[av,v,u] w fun e w'=>∃v',e= .returned v'∧TO w.heap.size ((m.length+l.length)*(K+1)+1) w' v' (mkV (m++scV a l))∧Ext w w':=by
 obtain⟨ad,n,cap,hnl,rfl,hn1,hat⟩:=hl.at;obtain⟨adu,mn0,capu,rfl,hmn0,hmn1,ps,hpl,hlP,hR,hnews⟩:=hm.news;obtain⟨rb,r1,m1,d1,r2,m2,d2,rfl⟩:=ha.parts;rw[←hnl,←hmn0]at hn ⊢;have HA:=Lib.hid ha;have HAT:=Lib.hid hat;have HN:=Lib.hid hnl;have HM0:=Lib.hid hmn0;have HNW:=Lib.hid hnews;have HPS:=Lib.hid (And.intro hpl (And.intro hlP hR));have eb:=emptyT;obtain⟨i0,z,hi0,hi1,hi2,hz,hz1⟩:=infoT;have HI:=Lib.hid (And.intro hi0 (And.intro hi1 (And.intro hi2 (And.intro hz hz1))));clear ha hl hm hat hnl hmn0 hnews hpl hlP hR hi0 hi1 hi2 hz hz1;obtain⟨w1,hw1,e1,b1,s1⟩:=alloc1 w #[.bool rb,.slice r1 m1 d1,.slice r2 m2 d2] 34
 have hs1a:w1.heap.size=w.heap.size+1:=s1
 obtain⟨w2,hw2⟩:∃w2,w2=w1.alloc (.cells #[] 96):=⟨_,rfl⟩;have e2:Ext w1 w2:=hw2▸(Ext.refl _).alloc _;have h0:w2.ownsRow w1.heap.size 96 4 (.slice (some ⟨w1.heap.size,0,none⟩) 0 0) 0 []:=hw2▸(LS.empty 96 4 w1.heap.size w1 (Nat.le_refl _)).2;have H0:=Lib.hid h0;have hbse:w1.heap.size≤w2.heap.size:=e2.size
 have hw2':w2=(w.alloc (.cells #[.bool rb,.slice r1 m1 d1,.slice r2 m2 d2] 34)).alloc (.cells #[] 96):=by rw[hw2,hw1]
 have HW2:=Lib.hid hw2';have HS1:=Lib.hid hs1a;clear hw2';clear h0
 go_enter Tryz.func85,Tryz.ntmps85
 rcases HNW.out with⟨rfl,hz0⟩ |⟨aa,rfl,hnw⟩
 ·subst hz0;go_wp2_with fail;rw[←HW2.out,←HS1.out]
  have hp0:ps=[]:=List.eq_nil_of_length_eq_zero HPS.out.1
  obtain⟨w3,hw3⟩:∃w3,w3=w2:=⟨_,rfl⟩
  have hls3:LS 96 4 w1.heap.size w3 (.slice (some ⟨w1.heap.size,0,none⟩) 0 0) ((tsP ps).map tmv):=by
   rw[hp0,hw3];exact⟨.nil 4,H0.out⟩
  have e3:Ext w1 w3:=hw3▸e2;rw[←hw3];clear hp0 hw3 hw1 hw2 H0;have hJ0:AxJ w1 w3 K (.slice (some ⟨w1.heap.size,0,none⟩) 0 0) (m++scV a (l.take 0)):=⟨e3,ps,hls3,by rw[HPS.out.2.1];simp[scV],fun p hp=> .inl ((HPS.out.2.2 p hp).mono (by omega) |>.ext e1)⟩;have HJ0:=Lib.hid (And.intro hJ0 (b1.ext e3));have HE1:=Lib.hid e1
  have hs1:w1.heap.size=w.heap.size+1:=s1
  clear hls3 hJ0 e3 b1 s1 e1
  go_loopw [7,8] (fun s7 s8 wr=>∃(i p gA capo:Nat),i≤n∧s8= .int .i64 (i:Int)∧s7= .slice (some ⟨gA,0,none⟩) p capo∧Hid (p=0+i∧AxJ w1 wr K (.slice (some ⟨gA,0,none⟩) p capo) (m++scV a (l.take i))∧Bx 34 wr w.heap.size #[.bool rb,.slice r1 m1 d1,.slice r2 m2 d2])) (fun _ s8 _=>((n:Int) - intOf s8).toNat)
  case atStart=>exact ⟨0,0,w1.heap.size,0,Nat.zero_le _,rfl,rfl,Lib.hid ⟨rfl,HJ0.out⟩⟩
  case round=>
   obtain⟨i,p,gA,capo,hi,rfl,rfl,hH⟩:=hrel;obtain⟨hpe,⟨hE0,pso,hlso,hpso,hfro⟩,hbx⟩:=hH.out
   rcases Nat.eq_or_lt_of_le hi with hin |hin
   ·subst hin
    have hlt:¬((i:Int)<(i:Int)):=by omega
    have hJ:=hH.out.2.1;rw[show l.take i=l by rw[HN.out,List.take_length]]at hJ
    have hlen:(m++scV a l).length=0+i:=by rw[List.length_append,HM0.out,HN.out];unfold scV;rw[List.length_map]
    have HL:=Lib.hid hlen;have HJ:=Lib.hid hJ;clear hJ hlen hpe hpso hlso hfro hH HJ0;go_wp2_with fail;refine(make5_calls K _ _ wr (HJ.out.tl (by rw[LIM_eq];omega)) h2 (by rw[HL.out];exact hn)).mono ?_;rintro e w9 ⟨v9,rfl,hto,e9⟩;rw[HL.out]at hto;have HTO:=Lib.hid hto;clear hto;go_wp2;go_ret;exact⟨_,rfl,HTO.out.mono (by have:=hE0.size;omega),(HE1.out.trans hE0).trans e9⟩
   ·have hlt:(i:Int)<(n:Int):=by omega
    obtain⟨x,hx⟩:∃x,l[i]? =some x:=⟨_,List.getElem?_eq_getElem (by rw[←HN.out];exact hin)⟩;obtain⟨g,off,rfl,b',a1,n1,c1,a2,n2,c2,hcell⟩:=HAT.out i x hx;obtain⟨-, -, -, -,hIsR⟩:=hcell wr (HE1.out.trans hE0);obtain⟨xc,xq⟩:=x
    simp only at hIsR
    have HX:=Lib.hid (And.intro hx hIsR)
    have HC0:Hid (∀wz,Ext wr wz→wz.cell? ⟨g,off+i*4,none⟩=some (.int .i64 xc)):=Lib.hid fun wz hz=>(hcell wz ((HE1.out.trans hE0).trans hz)).1
    have HC3:Hid (∀wz,Ext wr wz→∀(j:Nat) (v:Value),(#[.bool b',.slice a1 n1 c1,.slice a2 n2 c2]:Array Value)[j]? =some v→wz.cell? ⟨g,off+i*4+1+j,none⟩=some v):=Lib.hid fun wz hz j v hj=>by
     obtain⟨-,k1,k2,k3, -⟩:=hcell wz ((HE1.out.trans hE0).trans hz)
     match j,hj with
     |0,hj=>cases hj;exact k1
     |1,hj=>cases hj;exact k2
     |2,hj=>cases hj;exact k3
     |j+3,hj=>simp at hj
    have hqK:szQ (a*xq)≤K:=by have:=szQ_mul HA.out.sz hIsR.sz;omega
    have HQK:=Lib.hid hqK;have ER:=HE1.out.trans hE0
    have hol:((tsP pso).map tmv).length=p:=by
     have:=congrArg List.length hpso
     have h2:=(List.getElem?_eq_some_iff.1 hx).1;rw[List.length_append]at this;unfold lP scV at this;unfold tsP
     simp at this ⊢
     have:=HM0.out
     omega
    obtain⟨i1,hi1⟩:∃i1,i1=i+1:=⟨_,rfl⟩
    have hi1':(i:Int)+1=(i1:Int):=by omega
    have hi1n:i1≤n:=by omega
    obtain⟨p1,hp1⟩:∃p1,p1=p+1:=⟨_,rfl⟩;have HI1:=Lib.hid (And.intro hi1 (And.intro hp1 hpe))
    have hpb:p≤1000:=by omega
    have HPSO:=Lib.hid hpso;have HFO:=Lib.hid hfro;have hwr:=hE0.size;obtain⟨hgA,hgr,hgw⟩:=gT_own hlso (Ext.refl wr)
    have hgAl:gA<wr.heap.size:=by obtain⟨cs,h1⟩:=hgA;exact blk_lt h1
    have HO:=Lib.hid hlso;have HOL:=Lib.hid hol;have HGA:=Lib.hid hgA;have HGR:=Lib.hid hgr;clear hx hIsR hcell hi1 hp1 hpe hpso hqK hfro HJ0 hol hgA hgr hlso hH;go_wp2_with fail
    refine wp_region_one gA 18 19 (fun v b=>ApT w1.heap.size wr.heap.size p (xc) (a*xq) (tsP pso) (.slice (some ⟨gA,0,none⟩) p capo) v b) [PP.val (.slice (some ⟨gA,0,none⟩) p capo),PP.val (.slice (some ⟨g,off,none⟩) n cap),PP.val (.int .i64 (i:Int)),PP.val (.pointer (some ⟨g,off+i*4,none⟩)),PP.val (.pointer (some ⟨g,off+i*4,none⟩)),PP.val (.int .i64 xc),PP.val (.agg #[.bool rb,.slice r1 m1 d1,.slice r2 m2 d2]),PP.frQd a,PP.val (.slice (some ⟨g,off,none⟩) n cap),PP.val (.int .i64 (i:Int)),PP.val (.pointer (some ⟨g,off+i*4,none⟩)),PP.val (.pointer (some ⟨g,off+i*4+1,none⟩)),PP.val (.agg #[.bool b',.slice a1 n1 c1,.slice a2 n2 c2]),PP.frQd xq,PP.frQdS (a*xq) (5*k+5*k),PP.frQ (a*xq),PP.frTm (xc) (a*xq),PP.oneT (xc) (a*xq),PP.any,PP.any] [(0,19,7)] [18,17,16,15,14,13,12,11,10,9,8,7,6,5,4,3,2,1,0] (by kernel_rfl) (by kernel_rfl) (fun f=>(by simp only[fillR,fillL,List.setIfInBounds_toArray,List.set_cons_succ,List.set_cons_zero,Nat.reduceAdd];rfl)) (by decide) (hgAl) (fun u w1 w2 h hp=>hp.ext h) (by intro p hp;simp only[List.mem_cons,List.not_mem_nil,or_false]at hp;rcases hp with rfl |rfl |rfl |rfl |rfl |rfl |rfl |rfl |rfl |rfl |rfl |rfl |rfl |rfl |rfl |rfl |rfl |rfl |rfl |rfl<;>rfl) (fun _ _=>trivial) ?_ ?_ (by decide)
    ·refine⟨?_,?_,?_,?_,?_,?_,?_,?_,?_,?_,?_,?_,?_,?_,?_,?_,?_,?_,?_,?_,trivial⟩
     ·intro f w7 hG hp hl
      have l7:f 19= .slice (some ⟨gA,0,none⟩) p capo:=hl.1 rfl
      simp only[OpGoal];go_simp;exact⟨_,rfl,Ext.refl _,rfl⟩
     ·intro f w7 hG hp hl;simp only[OpGoal];go_simp;exact⟨_,rfl,Ext.refl _,rfl⟩
     ·intro f w7 hG hp hl;simp only[OpGoal];go_simp;exact⟨_,rfl,Ext.refl _,rfl⟩
     ·intro f w7 hG hp hl
      have q19:f 1= .slice (some ⟨g,off,none⟩) n cap:=tellO hp 0 1 rfl rfl
      have q20:f 2= .int .i64 (i:Int):=tellO hp 1 2 rfl rfl
      simp only[OpGoal];go_simp;exact⟨_,rfl,Ext.refl _,rfl⟩
     ·intro f w7 hG hp hl
      have q21:f 3= .pointer (some ⟨g,off+i*4,none⟩):=tellO hp 0 3 rfl rfl
      simp only[OpGoal];go_simp;exact⟨_,rfl,Ext.refl _,rfl⟩
     ·intro f w7 hG hp hl;have hE:Ext wr w7:=hG
      have q22:f 4= .pointer (some ⟨g,off+i*4,none⟩):=tellO hp 0 4 rfl rfl
      have hcell:=HC0.out _ hE;simp only[OpGoal];go_simp;exact⟨_,rfl,Ext.refl _,rfl⟩
     ·intro f w7 hG hp hl;have hE:Ext wr w7:=hG;change OpGoal _ _ _ f w7 Ext _;exact og_load (P:=Tryz.prog) _ _ w.heap.size _ _ _ rfl rfl rfl (hbx.ext hE) Tryz.underlying34 rfl (by kernel_rfl) rfl
     ·intro f w7 hG hp hl;have hE:Ext wr w7:=hG;have hS:=hE.size
      have q24:f 6= .agg #[.bool rb,.slice r1 m1 d1,.slice r2 m2 d2]:=tellO hp 0 6 rfl rfl
      change OpGoal _ _ _ f w7 Ext _;refine oC #[f 6] Tryz.func55 rfl rfl ?_;rw[q24];refine(rqofR_calls _ a k _ (HA.out.ext (ER.trans hE)) (by omega)).mono ?_;rintro e w' ⟨v',rfl,h1,h2⟩;exact⟨v',rfl,h2,h1.mono hS⟩
     ·intro f w7 hG hp hl;simp only[OpGoal];go_simp;exact⟨_,rfl,Ext.refl _,rfl⟩
     ·intro f w7 hG hp hl;simp only[OpGoal];go_simp;exact⟨_,rfl,Ext.refl _,rfl⟩
     ·intro f w7 hG hp hl
      have q26:f 8= .slice (some ⟨g,off,none⟩) n cap:=tellO hp 0 8 rfl rfl
      have q27:f 9= .int .i64 (i:Int):=tellO hp 1 9 rfl rfl
      simp only[OpGoal];go_simp;exact⟨_,rfl,Ext.refl _,rfl⟩
     ·intro f w7 hG hp hl
      have q28:f 10= .pointer (some ⟨g,off+i*4,none⟩):=tellO hp 0 10 rfl rfl
      simp only[OpGoal];go_simp;exact⟨_,rfl,Ext.refl _,rfl⟩
     ·intro f w7 hG hp hl;have hE:Ext wr w7:=hG
      have q29:f 11= .pointer (some ⟨g,off+i*4+1,none⟩):=tellO hp 0 11 rfl rfl
      change OpGoal _ _ _ f w7 Ext _;exact og_loadAt (P:=Tryz.prog) _ _ g (off+i*4+1) _ _ rfl rfl q29 (fun j v h=>HC3.out _ hE j v h) Tryz.underlying34 rfl (by kernel_rfl) rfl
     ·intro f w7 hG hp hl;have hE:Ext wr w7:=hG;have hS:=hE.size
      have q30:f 12= .agg #[.bool b',.slice a1 n1 c1,.slice a2 n2 c2]:=tellO hp 0 12 rfl rfl
      change OpGoal _ _ _ f w7 Ext _;refine oC #[f 12] Tryz.func55 rfl rfl ?_;rw[q30];refine(rqofR_calls _ xq k _ (HX.out.2.ext hE) (by omega)).mono ?_;rintro e w' ⟨v',rfl,h1,h2⟩;exact⟨v',rfl,h2,h1.mono hS⟩
     ·intro f w7 hG hp hl;have hE:Ext wr w7:=hG;have hS:=hE.size;have q25:=tellO hp 0 7 rfl rfl;have q31:=tellO hp 1 13 rfl rfl;change OpGoal _ _ _ f w7 Ext _;refine oC #[f 7,f 13] Tryz.func63 rfl rfl ?_;refine(rqmul3_calls _ _ a xq (5*k) (5*k) _ q25.cq q31.cq (szD_of HA.out.sz) (szD_of HX.out.2.sz) (by omega)).mono ?_;rintro e w' ⟨v',rfl,h1,h3,h2⟩;exact⟨v',rfl,h2,h1.mono hS,h3⟩
     ·intro f w7 hG hp hl;have hE:Ext wr w7:=hG;have hS:=hE.size;have q32:=tellO hp 0 14 rfl rfl;change OpGoal _ _ _ f w7 Ext _;refine oC #[f 14] Tryz.func59 rfl rfl ?_;refine(rqto3_calls _ (a*xq) _ q32.1.cq (by have:=q32.2;omega)).mono ?_;rintro e w' ⟨v',rfl,h1,h2⟩;exact⟨v',rfl,h2,h1.mono hS⟩
     ·intro f w7 hG hp hl
      have q23:f 5= .int .i64 xc:=tellO hp 0 5 rfl rfl
      have q33:=tellO hp 1 15 rfl rfl;obtain⟨tb,ta1,tn1,tc1,ta2,tn2,tc2,tv,tq⟩:=FrQ.opn (q33);change OpGoal _ _ _ f w7 Ext _;simp only[OpGoal];go_simp;exact⟨_,rfl,Ext.refl _,⟨xc,tb,ta1,tn1,tc1,ta2,tn2,tc2⟩,rfl,rfl,tq⟩
     ·intro f w7 hG hp hl;have hE:Ext wr w7:=hG;have hS:=hE.size;have q34:=tellO hp 0 16 rfl rfl;obtain⟨tt,tv,tc,tq⟩:=q34;change OpGoal _ _ _ f w7 Ext _;exact og_buildSlice (P:=Tryz.prog) 29 96 1 4 _ [tmv tt] rfl rfl Tryz.underlying29 (by kernel_rfl) (by kernel_rfl) (by simp only[Act.eval];exact congrArg (fun z=> [(0,z)]) tv) rfl (by omega) (by omega) (by omega) (strN_tmv [tt]).size (fun w' he hb=>⟨_,tt,hS,rfl,hb,tc,tq.ext he⟩)
     ·intro f w7 hG hp hl;have hE:Ext wr w7:=hG;have hS:=hE.size
      have q18:f 0= .slice (some ⟨gA,0,none⟩) p capo:=tellO hp 0 0 rfl rfl
      have q35:=tellO hp 1 17 rfl rfl
      have qL:f 0= .slice (some ⟨gA,0,none⟩) p capo:=tellO hp 0 0 rfl rfl
      obtain⟨gx,tt,hgx,hvx,hbx,htc,htq⟩:=tellO hp 1 17 rfl rfl;change OpGoal _ _ _ f w7 (Chg gA) _
      refine og_append (P:=Tryz.prog) _ _ 29 rfl rfl w1.heap.size 96 4 64 Tryz.underlying29 (by kernel_rfl) (by kernel_rfl) (by omega) (.slice (some ⟨gA,0,none⟩) p capo) p (flatS ((tsP pso).map tmv)) qL (by have:=(HO.out.ext ((Ext.refl wr).trans hE)).2;rw[HOL.out]at this;exact this) ⟨gx,0,none⟩ 1 1 [.int .i64 tt.c,.bool tt.b,.slice tt.a1 tt.n1 tt.c1,.slice tt.a2 tt.n2 tt.c2] hvx rfl (fun j u hj=>by rw[addr_add,Nat.zero_add,hbx.cell];unfold tmv;simpa[Value.cells]using hj) (by intro u hu;simp at hu;rcases hu with rfl |rfl |rfl |rfl<;>rfl) (by omega) (by unfold maxLen;omega) (by omega) (by have:=hE.size;omega) (fun v' w' h1 h2 h3=>⟨HGR.out _ _ h2,ap_fin (by have:=HOL.out;rw[List.length_map]at this;exact this) h1 h3 hE.size htc (htq.chg (HGR.out _ _ h2) hgAl)⟩)
     ·intro f w7 hG hp hl;have hS:wr.heap.size≤w7.heap.size:=Chg.size hG;change OpGoal _ _ _ f w7 Ext _;simp only[OpGoal];go_simp;exact⟨_,rfl,Ext.refl _,rfl⟩
    ·intro f w7 hC hF1 hmv hp;clear hp;obtain⟨tt,go,co,hv9,hls9,htc9,htq9,hgo9⟩:=id hF1;have hf9:=(hmv (by decide)).trans hv9;have hAJ:=AxJ.app hE0 HPSO.out HFO.out (Ext.refl wr) hC HGA.out (hv9▸hF1) hwr hgw HQK.out;have HAJ:=Lib.hid hAJ;have B7:Bx 34 w7 w.heap.size #[.bool rb,.slice r1 m1 d1,.slice r2 m2 d2]:=hC.blk hbx (by omega)
     have hmm:m++scV a (l.take i1)=m++scV a (l.take i)++ [(xc,a*xq)]:=by
      rw[HI1.out.1,(take_snoc HX.out.1).1];unfold scV;rw[List.map_append,List.append_assoc]
      rfl
     have HMM2:=Lib.hid hmm
     have hpp:p1=0+i1:=by have:=HI1.out;omega
     rw[hf9];clear hF1 hmv hv9 hls9 htc9 htq9 hgo9 hAJ hf9 hmm;rw[←HI1.out.2.1];go_wp2;go_roundw
     case rel=>exact ⟨i1,p1,go,co,hi1n,rfl,rfl,Lib.hid ⟨hpp,by rw[HMM2.out,HI1.out.2.1];exact HAJ.out,B7⟩⟩
     case measure=>have:=HI1.out;simp[intOf];omega
 ·have HNV:=Lib.hid hnw
  have hlnn:(flatS ((tsP ps).map tmv)).length=mn0*4:=by
   rw[flatS_len (strN_tmv _).size,List.length_map];unfold tsP;rw[List.length_map,HPS.out.1]
  obtain⟨news,hnews⟩:∃news,news=flatS ((tsP ps).map tmv):=⟨_,rfl⟩;have hone:=news_one (ps:=tsP ps);rw[←hnews]at hlnn hone;have HN1:=Lib.hid (And.intro hnews (And.intro hlnn hone));clear hnw hnews hlnn hone
  go_wp2_with (at_builtin;refine wpList_append_own _ rfl _ _ 29 rfl w1.heap.size 96 i0 z 4 64 Tryz.underlying29 HI.out.1 HI.out.2.2.2.1 HI.out.2.1 HI.out.2.2.1 HI.out.2.2.2.2 (by omega) _ _ _ rfl (by rw[←HS1.out,←HW2.out];exact H0.out) aa mn0 capu news rfl ?qc1 ?qc2 ?qc3 ?qc4 ?qc5 ?qc6 ?_)
  case qc1=>exact HN1.out.2.1
  case qc2=>
   intro j u hj;rw[←HW2.out];exact HNV.out w2 (e1.trans e2) j u (by rw[←HN1.out.1];exact hj)
  case qc3=>exact HN1.out.2.2
  case qc4=>rw [Nat.zero_add];unfold maxLen;omega
  case qc5=>rw [Nat.zero_add];omega
  case qc6=>rw [←HW2.out];exact hbse
  intro v3 w3 hown hgrow hnil
  try rw[Nat.zero_add,List.nil_append]at hown
  rw[←HS1.out]at hown;obtain⟨g3,cap3,rfl⟩:=own_some hown hnil;rw[←HW2.out]at hgrow;have e3:Ext w1 w3:=e2.step hgrow (by rw[HS1.out];exact Nat.le_refl _)
  have hls3:LS 96 4 w1.heap.size w3 (.slice (some ⟨g3,0,none⟩) mn0 cap3) ((tsP ps).map tmv):=by
   refine⟨strN_tmv _,?_⟩;rw[List.length_map];unfold tsP;rw[List.length_map,HPS.out.1]
   have:=hown
   rw[HN1.out.1]at this;exact this
  clear hown hgrow hnil hw1 hw2 H0;go_wp2_with fail;have hJ0:AxJ w1 w3 K (.slice (some ⟨g3,0,none⟩) mn0 cap3) (m++scV a (l.take 0)):=⟨e3,ps,hls3,by rw[HPS.out.2.1];simp[scV],fun p hp=> .inl ((HPS.out.2.2 p hp).mono (by omega) |>.ext e1)⟩;have HJ0:=Lib.hid (And.intro hJ0 (b1.ext e3));have HE1:=Lib.hid e1
  have hs1:w1.heap.size=w.heap.size+1:=s1
  clear hls3 hJ0 e3 b1 s1 e1
  go_loopw [7,8] (fun s7 s8 wr=>∃(i p gA capo:Nat),i≤n∧s8= .int .i64 (i:Int)∧s7= .slice (some ⟨gA,0,none⟩) p capo∧Hid (p=mn0+i∧AxJ w1 wr K (.slice (some ⟨gA,0,none⟩) p capo) (m++scV a (l.take i))∧Bx 34 wr w.heap.size #[.bool rb,.slice r1 m1 d1,.slice r2 m2 d2])) (fun _ s8 _=>((n:Int) - intOf s8).toNat)
  case atStart=>exact ⟨0,mn0,g3,cap3,Nat.zero_le _,rfl,rfl,Lib.hid ⟨rfl,HJ0.out⟩⟩
  case round=>
   obtain⟨i,p,gA,capo,hi,rfl,rfl,hH⟩:=hrel;obtain⟨hpe,⟨hE0,pso,hlso,hpso,hfro⟩,hbx⟩:=hH.out
   rcases Nat.eq_or_lt_of_le hi with hin |hin
   ·subst hin
    have hlt:¬((i:Int)<(i:Int)):=by omega
    have hJ:=hH.out.2.1;rw[show l.take i=l by rw[HN.out,List.take_length]]at hJ
    have hlen:(m++scV a l).length=mn0+i:=by rw[List.length_append,HM0.out,HN.out];unfold scV;rw[List.length_map]
    have HL:=Lib.hid hlen;have HJ:=Lib.hid hJ;clear hJ hlen hpe hpso hlso hfro hH HJ0;go_wp2_with fail;refine(make5_calls K _ _ wr (HJ.out.tl (by rw[LIM_eq];omega)) h2 (by rw[HL.out];exact hn)).mono ?_;rintro e w9 ⟨v9,rfl,hto,e9⟩;rw[HL.out]at hto;have HTO:=Lib.hid hto;clear hto;go_wp2;go_ret;exact⟨_,rfl,HTO.out.mono (by have:=hE0.size;omega),(HE1.out.trans hE0).trans e9⟩
   ·have hlt:(i:Int)<(n:Int):=by omega
    obtain⟨x,hx⟩:∃x,l[i]? =some x:=⟨_,List.getElem?_eq_getElem (by rw[←HN.out];exact hin)⟩;obtain⟨g,off,rfl,b',a1,n1,c1,a2,n2,c2,hcell⟩:=HAT.out i x hx;obtain⟨-, -, -, -,hIsR⟩:=hcell wr (HE1.out.trans hE0);obtain⟨xc,xq⟩:=x
    simp only at hIsR
    have HX:=Lib.hid (And.intro hx hIsR)
    have HC0:Hid (∀wz,Ext wr wz→wz.cell? ⟨g,off+i*4,none⟩=some (.int .i64 xc)):=Lib.hid fun wz hz=>(hcell wz ((HE1.out.trans hE0).trans hz)).1
    have HC3:Hid (∀wz,Ext wr wz→∀(j:Nat) (v:Value),(#[.bool b',.slice a1 n1 c1,.slice a2 n2 c2]:Array Value)[j]? =some v→wz.cell? ⟨g,off+i*4+1+j,none⟩=some v):=Lib.hid fun wz hz j v hj=>by
     obtain⟨-,k1,k2,k3, -⟩:=hcell wz ((HE1.out.trans hE0).trans hz)
     match j,hj with
     |0,hj=>cases hj;exact k1
     |1,hj=>cases hj;exact k2
     |2,hj=>cases hj;exact k3
     |j+3,hj=>simp at hj
    have hqK:szQ (a*xq)≤K:=by have:=szQ_mul HA.out.sz hIsR.sz;omega
    have HQK:=Lib.hid hqK;have ER:=HE1.out.trans hE0
    have hol:((tsP pso).map tmv).length=p:=by
     have:=congrArg List.length hpso
     have h2:=(List.getElem?_eq_some_iff.1 hx).1;rw[List.length_append]at this;unfold lP scV at this;unfold tsP
     simp at this ⊢
     have:=HM0.out
     omega
    obtain⟨i1,hi1⟩:∃i1,i1=i+1:=⟨_,rfl⟩
    have hi1':(i:Int)+1=(i1:Int):=by omega
    have hi1n:i1≤n:=by omega
    obtain⟨p1,hp1⟩:∃p1,p1=p+1:=⟨_,rfl⟩;have HI1:=Lib.hid (And.intro hi1 (And.intro hp1 hpe))
    have hpb:p≤1000:=by omega
    have HPSO:=Lib.hid hpso;have HFO:=Lib.hid hfro;have hwr:=hE0.size;obtain⟨hgA,hgr,hgw⟩:=gT_own hlso (Ext.refl wr)
    have hgAl:gA<wr.heap.size:=by obtain⟨cs,h1⟩:=hgA;exact blk_lt h1
    have HO:=Lib.hid hlso;have HOL:=Lib.hid hol;have HGA:=Lib.hid hgA;have HGR:=Lib.hid hgr;clear hx hIsR hcell hi1 hp1 hpe hpso hqK hfro HJ0 hol hgA hgr hlso hH;go_wp2_with fail
    refine wp_region_one gA 18 19 (fun v b=>ApT w1.heap.size wr.heap.size p (xc) (a*xq) (tsP pso) (.slice (some ⟨gA,0,none⟩) p capo) v b) [PP.val (.slice (some ⟨gA,0,none⟩) p capo),PP.val (.slice (some ⟨g,off,none⟩) n cap),PP.val (.int .i64 (i:Int)),PP.val (.pointer (some ⟨g,off+i*4,none⟩)),PP.val (.pointer (some ⟨g,off+i*4,none⟩)),PP.val (.int .i64 xc),PP.val (.agg #[.bool rb,.slice r1 m1 d1,.slice r2 m2 d2]),PP.frQd a,PP.val (.slice (some ⟨g,off,none⟩) n cap),PP.val (.int .i64 (i:Int)),PP.val (.pointer (some ⟨g,off+i*4,none⟩)),PP.val (.pointer (some ⟨g,off+i*4+1,none⟩)),PP.val (.agg #[.bool b',.slice a1 n1 c1,.slice a2 n2 c2]),PP.frQd xq,PP.frQdS (a*xq) (5*k+5*k),PP.frQ (a*xq),PP.frTm (xc) (a*xq),PP.oneT (xc) (a*xq),PP.any,PP.any] [(0,19,7)] [18,17,16,15,14,13,12,11,10,9,8,7,6,5,4,3,2,1,0] (by kernel_rfl) (by kernel_rfl) (fun f=>(by simp only[fillR,fillL,List.setIfInBounds_toArray,List.set_cons_succ,List.set_cons_zero,Nat.reduceAdd];rfl)) (by decide) (hgAl) (fun u w1 w2 h hp=>hp.ext h) (by intro p hp;simp only[List.mem_cons,List.not_mem_nil,or_false]at hp;rcases hp with rfl |rfl |rfl |rfl |rfl |rfl |rfl |rfl |rfl |rfl |rfl |rfl |rfl |rfl |rfl |rfl |rfl |rfl |rfl |rfl<;>rfl) (fun _ _=>trivial) ?_ ?_ (by decide)
    ·refine⟨?_,?_,?_,?_,?_,?_,?_,?_,?_,?_,?_,?_,?_,?_,?_,?_,?_,?_,?_,?_,trivial⟩
     ·intro f w7 hG hp hl
      have l7:f 19= .slice (some ⟨gA,0,none⟩) p capo:=hl.1 rfl
      simp only[OpGoal];go_simp;exact⟨_,rfl,Ext.refl _,rfl⟩
     ·intro f w7 hG hp hl;simp only[OpGoal];go_simp;exact⟨_,rfl,Ext.refl _,rfl⟩
     ·intro f w7 hG hp hl;simp only[OpGoal];go_simp;exact⟨_,rfl,Ext.refl _,rfl⟩
     ·intro f w7 hG hp hl
      have q19:f 1= .slice (some ⟨g,off,none⟩) n cap:=tellO hp 0 1 rfl rfl
      have q20:f 2= .int .i64 (i:Int):=tellO hp 1 2 rfl rfl
      simp only[OpGoal];go_simp;exact⟨_,rfl,Ext.refl _,rfl⟩
     ·intro f w7 hG hp hl
      have q21:f 3= .pointer (some ⟨g,off+i*4,none⟩):=tellO hp 0 3 rfl rfl
      simp only[OpGoal];go_simp;exact⟨_,rfl,Ext.refl _,rfl⟩
     ·intro f w7 hG hp hl;have hE:Ext wr w7:=hG
      have q22:f 4= .pointer (some ⟨g,off+i*4,none⟩):=tellO hp 0 4 rfl rfl
      have hcell:=HC0.out _ hE;simp only[OpGoal];go_simp;exact⟨_,rfl,Ext.refl _,rfl⟩
     ·intro f w7 hG hp hl;have hE:Ext wr w7:=hG;change OpGoal _ _ _ f w7 Ext _;exact og_load (P:=Tryz.prog) _ _ w.heap.size _ _ _ rfl rfl rfl (hbx.ext hE) Tryz.underlying34 rfl (by kernel_rfl) rfl
     ·intro f w7 hG hp hl;have hE:Ext wr w7:=hG;have hS:=hE.size
      have q24:f 6= .agg #[.bool rb,.slice r1 m1 d1,.slice r2 m2 d2]:=tellO hp 0 6 rfl rfl
      change OpGoal _ _ _ f w7 Ext _;refine oC #[f 6] Tryz.func55 rfl rfl ?_;rw[q24];refine(rqofR_calls _ a k _ (HA.out.ext (ER.trans hE)) (by omega)).mono ?_;rintro e w' ⟨v',rfl,h1,h2⟩;exact⟨v',rfl,h2,h1.mono hS⟩
     ·intro f w7 hG hp hl;simp only[OpGoal];go_simp;exact⟨_,rfl,Ext.refl _,rfl⟩
     ·intro f w7 hG hp hl;simp only[OpGoal];go_simp;exact⟨_,rfl,Ext.refl _,rfl⟩
     ·intro f w7 hG hp hl
      have q26:f 8= .slice (some ⟨g,off,none⟩) n cap:=tellO hp 0 8 rfl rfl
      have q27:f 9= .int .i64 (i:Int):=tellO hp 1 9 rfl rfl
      simp only[OpGoal];go_simp;exact⟨_,rfl,Ext.refl _,rfl⟩
     ·intro f w7 hG hp hl
      have q28:f 10= .pointer (some ⟨g,off+i*4,none⟩):=tellO hp 0 10 rfl rfl
      simp only[OpGoal];go_simp;exact⟨_,rfl,Ext.refl _,rfl⟩
     ·intro f w7 hG hp hl;have hE:Ext wr w7:=hG
      have q29:f 11= .pointer (some ⟨g,off+i*4+1,none⟩):=tellO hp 0 11 rfl rfl
      change OpGoal _ _ _ f w7 Ext _;exact og_loadAt (P:=Tryz.prog) _ _ g (off+i*4+1) _ _ rfl rfl q29 (fun j v h=>HC3.out _ hE j v h) Tryz.underlying34 rfl (by kernel_rfl) rfl
     ·intro f w7 hG hp hl;have hE:Ext wr w7:=hG;have hS:=hE.size
      have q30:f 12= .agg #[.bool b',.slice a1 n1 c1,.slice a2 n2 c2]:=tellO hp 0 12 rfl rfl
      change OpGoal _ _ _ f w7 Ext _;refine oC #[f 12] Tryz.func55 rfl rfl ?_;rw[q30];refine(rqofR_calls _ xq k _ (HX.out.2.ext hE) (by omega)).mono ?_;rintro e w' ⟨v',rfl,h1,h2⟩;exact⟨v',rfl,h2,h1.mono hS⟩
     ·intro f w7 hG hp hl;have hE:Ext wr w7:=hG;have hS:=hE.size;have q25:=tellO hp 0 7 rfl rfl;have q31:=tellO hp 1 13 rfl rfl;change OpGoal _ _ _ f w7 Ext _;refine oC #[f 7,f 13] Tryz.func63 rfl rfl ?_;refine(rqmul3_calls _ _ a xq (5*k) (5*k) _ q25.cq q31.cq (szD_of HA.out.sz) (szD_of HX.out.2.sz) (by omega)).mono ?_;rintro e w' ⟨v',rfl,h1,h3,h2⟩;exact⟨v',rfl,h2,h1.mono hS,h3⟩
     ·intro f w7 hG hp hl;have hE:Ext wr w7:=hG;have hS:=hE.size;have q32:=tellO hp 0 14 rfl rfl;change OpGoal _ _ _ f w7 Ext _;refine oC #[f 14] Tryz.func59 rfl rfl ?_;refine(rqto3_calls _ (a*xq) _ q32.1.cq (by have:=q32.2;omega)).mono ?_;rintro e w' ⟨v',rfl,h1,h2⟩;exact⟨v',rfl,h2,h1.mono hS⟩
     ·intro f w7 hG hp hl
      have q23:f 5= .int .i64 xc:=tellO hp 0 5 rfl rfl
      have q33:=tellO hp 1 15 rfl rfl;obtain⟨tb,ta1,tn1,tc1,ta2,tn2,tc2,tv,tq⟩:=FrQ.opn (q33);change OpGoal _ _ _ f w7 Ext _;simp only[OpGoal];go_simp;exact⟨_,rfl,Ext.refl _,⟨xc,tb,ta1,tn1,tc1,ta2,tn2,tc2⟩,rfl,rfl,tq⟩
     ·intro f w7 hG hp hl;have hE:Ext wr w7:=hG;have hS:=hE.size;have q34:=tellO hp 0 16 rfl rfl;obtain⟨tt,tv,tc,tq⟩:=q34;change OpGoal _ _ _ f w7 Ext _;exact og_buildSlice (P:=Tryz.prog) 29 96 1 4 _ [tmv tt] rfl rfl Tryz.underlying29 (by kernel_rfl) (by kernel_rfl) (by simp only[Act.eval];exact congrArg (fun z=> [(0,z)]) tv) rfl (by omega) (by omega) (by omega) (strN_tmv [tt]).size (fun w' he hb=>⟨_,tt,hS,rfl,hb,tc,tq.ext he⟩)
     ·intro f w7 hG hp hl;have hE:Ext wr w7:=hG;have hS:=hE.size
      have q18:f 0= .slice (some ⟨gA,0,none⟩) p capo:=tellO hp 0 0 rfl rfl
      have q35:=tellO hp 1 17 rfl rfl
      have qL:f 0= .slice (some ⟨gA,0,none⟩) p capo:=tellO hp 0 0 rfl rfl
      obtain⟨gx,tt,hgx,hvx,hbx,htc,htq⟩:=tellO hp 1 17 rfl rfl;change OpGoal _ _ _ f w7 (Chg gA) _
      refine og_append (P:=Tryz.prog) _ _ 29 rfl rfl w1.heap.size 96 4 64 Tryz.underlying29 (by kernel_rfl) (by kernel_rfl) (by omega) (.slice (some ⟨gA,0,none⟩) p capo) p (flatS ((tsP pso).map tmv)) qL (by have:=(HO.out.ext ((Ext.refl wr).trans hE)).2;rw[HOL.out]at this;exact this) ⟨gx,0,none⟩ 1 1 [.int .i64 tt.c,.bool tt.b,.slice tt.a1 tt.n1 tt.c1,.slice tt.a2 tt.n2 tt.c2] hvx rfl (fun j u hj=>by rw[addr_add,Nat.zero_add,hbx.cell];unfold tmv;simpa[Value.cells]using hj) (by intro u hu;simp at hu;rcases hu with rfl |rfl |rfl |rfl<;>rfl) (by omega) (by unfold maxLen;omega) (by omega) (by have:=hE.size;omega) (fun v' w' h1 h2 h3=>⟨HGR.out _ _ h2,ap_fin (by have:=HOL.out;rw[List.length_map]at this;exact this) h1 h3 hE.size htc (htq.chg (HGR.out _ _ h2) hgAl)⟩)
     ·intro f w7 hG hp hl;have hS:wr.heap.size≤w7.heap.size:=Chg.size hG;change OpGoal _ _ _ f w7 Ext _;simp only[OpGoal];go_simp;exact⟨_,rfl,Ext.refl _,rfl⟩
    ·intro f w7 hC hF1 hmv hp;clear hp;obtain⟨tt,go,co,hv9,hls9,htc9,htq9,hgo9⟩:=id hF1;have hf9:=(hmv (by decide)).trans hv9;have hAJ:=AxJ.app hE0 HPSO.out HFO.out (Ext.refl wr) hC HGA.out (hv9▸hF1) hwr hgw HQK.out;have HAJ:=Lib.hid hAJ;have B7:Bx 34 w7 w.heap.size #[.bool rb,.slice r1 m1 d1,.slice r2 m2 d2]:=hC.blk hbx (by omega)
     have hmm:m++scV a (l.take i1)=m++scV a (l.take i)++ [(xc,a*xq)]:=by
      rw[HI1.out.1,(take_snoc HX.out.1).1];unfold scV;rw[List.map_append,List.append_assoc]
      rfl
     have HMM2:=Lib.hid hmm
     have hpp:p1=mn0+i1:=by have:=HI1.out;omega
     rw[hf9];clear hF1 hmv hv9 hls9 htc9 htq9 hgo9 hAJ hf9 hmm;rw[←HI1.out.2.1];go_wp2;go_roundw
     case rel=>exact ⟨i1,p1,go,co,hi1n,rfl,rfl,Lib.hid ⟨hpp,by rw[HMM2.out,HI1.out.2.1];exact HAJ.out,B7⟩⟩
     case measure=>have:=HI1.out;simp[intOf];omega
theorem SLQ.ql{w:World}{u:Value}{l:List RE}(h:SLQ w u l)(k:Nat)(hk:1≤k)(hk2:k≤LIM)(hl:∀e∈l,e.2.1.length+e.2.2.length≤k):QL k w u (l.map ratE):=by
 obtain⟨ad,cap,h1,h2,h3,h4⟩:=h;refine⟨ad,cap,by rw[List.length_map];exact h1,by rw[List.length_map];exact h2,h3,?_⟩
 rcases h4 with h4 |⟨g,off,h4,h5⟩
 ·exact .inl (by rw[h4];rfl)
 ·refine .inr ⟨g,off,h4,fun i x hi=> ?_⟩;rw[List.getElem?_map]at hi
  cases he:l[i]? with
  |none=>rw [he]at hi;cases hi
  |some e=>
   rw[he]at hi;simp only[Option.map_some,Option.some.injEq]at hi;subst hi;obtain⟨cs,k1,k2,k4⟩:=h5 i e he
   have:=hl e (List.mem_of_getElem? he)
   exact⟨cs,k1,k2,k4.1.isR k4.2.1 k4.2.2.1 k (by omega) (by omega) hk hk2⟩
theorem SLQ.dig{w:World}{u:Value}{l:List RE}(h:SLQ w u l):∀e∈l,Dig W e.2.1∧Dig W e.2.2∧e.2.1.length+e.2.2.length≤9223372036854775807:=by
 intro e he;obtain⟨i,hi,rfl⟩:=List.getElem_of_mem he;obtain⟨ad,m,cap, -, -, -,hat⟩:=h.at;obtain⟨g,off, -,b,a1,n1,c1,a2,n2,c2, -, -,hR⟩:=hat i _ (List.getElem?_eq_getElem hi);exact(hR w (Ext.refl w)).2.2.2.2
set_option maxHeartbeats 4000000 in
theorem greatAll_calls(v:Value)(l:List RE)(w:World)(hv:SLQ w v l):
  Calls Tryz.prog 17 #[v] w fun e w'=>e= .returned (.bool (greatE l))∧Ext w w':=by
 obtain⟨ad,n,cap,hnl,rfl,hn1,hat⟩:=hv.at;have HV:=Lib.hid hv;have HN:=Lib.hid hnl;have HAT:=Lib.hid hat;clear hnl hat hv
 go_enter Tryz.func17,Tryz.ntmps17
 go_wp2_with fail
 go_loopw [3] (fun s wr=>∃i:Nat,i≤n∧s= .int .i64 (i:Int)∧Hid (∀e∈l.take i,wordsE e≤6)∧Ext w wr) (fun s _=>((n:Int) - intOf s).toNat)
 case atStart=>exact ⟨0,Nat.zero_le _,rfl,Lib.hid (fun e he=>by simp at he),Ext.refl _⟩
 case round=>
  obtain⟨i,hi,rfl,hS,hE0⟩:=hrel
  rcases Nat.eq_or_lt_of_le hi with hin |hin
  ·subst hin
   have hlt:¬((i:Int)<(i:Int)):=by omega
   have hall:∀e∈l,wordsE e≤6:=by have:=hS.out;rwa [HN.out,List.take_length]at this
   have hG:greatE l=(decide (30<i) || decide (18<weightE l)):=by
    rw[greatE_rest hall,←HN.out]
   have HG:=Lib.hid hG;have HALL:=Lib.hid hall;clear hG hall
   by_cases h30:30<i
   ·have h30':(30:Int)<(i:Int):=by omega
    have HR:Hid (greatE l=true):=Lib.hid (by rw[HG.out,decide_eq_true h30];rfl)
    go_wp2;go_ret
    exact⟨by rw[HR.out]<;>rfl,hE0⟩
   ·have h30':¬(30:Int)<(i:Int):=by omega
    have HR:Hid (greatE l=decide (18<weightE l)):=Lib.hid (by rw[HG.out,decide_eq_false h30];rfl)
    go_wp2_with fail;refine(weight_calls _ l wr (HV.out.ext hE0) (by rw[←HN.out];omega) HALL.out).mono ?_;rintro e w2 ⟨rfl,e2⟩;obtain⟨p,hp⟩:∃p,p=weightE l:=⟨_,rfl⟩;rw[←hp]at HR ⊢;clear hp
    by_cases h18:18<p
    ·have h18':(18:Int)<(p:Int):=by omega
     have HR2:Hid (greatE l=true):=Lib.hid (by rw[HR.out,decide_eq_true h18])
     go_wp2;go_ret
     exact⟨by rw[HR2.out]<;>rfl,hE0.trans e2⟩
    ·have h18':¬(18:Int)<(p:Int):=by omega
     have hd18:decide ((18:Int)<(p:Int))=false:=decide_eq_false h18'
     have HR2:Hid (greatE l=false):=Lib.hid (by rw[HR.out,decide_eq_false h18])
     go_wp2;go_ret
     exact⟨by rw[HR2.out]<;>rfl,hE0.trans e2⟩
  ·have hlt:(i:Int)<(n:Int):=by omega
   obtain⟨⟨xb,xs,xt⟩,hx⟩:∃x,l[i]? =some x:=⟨_,List.getElem?_eq_getElem (by rw[←HN.out];exact hin)⟩;obtain⟨g,off,rfl,b,a1,n1,c1,a2,n2,c2, -, -,hcell⟩:=HAT.out i _ hx;obtain⟨hc0,hc1,hc2,hR⟩:=hcell wr hE0;have HRX:=Lib.hid hR;have HX:=Lib.hid hx;obtain⟨p,hp⟩:∃p,p=xs.length+xt.length:=⟨_,rfl⟩;have HP:=Lib.hid hp;obtain⟨i1,hi1⟩:∃i1,i1=i+1:=⟨_,rfl⟩
   have hi1':(i:Int)+1=(i1:Int):=by omega
   have hi1n:i1≤n:=by omega
   have HI1:=Lib.hid hi1;clear hcell hx hR hp hi1;go_wp2_with fail;refine(rqwords3_calls _ xb xs xt wr HRX.out.1 HRX.out.2.2.2).mono ?_;rintro e w2 ⟨rfl,e2⟩;rw[←HP.out]
   by_cases h6:6<p
   ·have h6':(6:Int)<(p:Int):=by omega
    have HR:Hid (greatE l=true):=Lib.hid (greatE_words (i:=i) (e:=(xb,xs,xt)) HX.out (by show 6<xs.length+xt.length;rw[←HP.out];exact h6))
    go_wp2;go_ret
    exact⟨by rw[HR.out]<;>rfl,hE0.trans e2⟩
   ·have h6':¬(6:Int)<(p:Int):=by omega
    have hs:∀e∈l.take i1,wordsE e≤6:=by
     rw[HI1.out,List.take_add_one,HX.out];intro e he
     rcases List.mem_append.1 he with he |he
     ·exact hS.out e he
     ·simp only[Option.toList_some,List.mem_singleton]at he;subst he
      show xs.length+xt.length≤6
      rw[←HP.out]
      omega
    have HS:=Lib.hid hs;clear hs;go_wp2;go_roundw
    case rel=>exact ⟨i1,hi1n,rfl,HS,hE0.trans e2⟩
    case measure=>have:=HI1.out;simp[intOf];omega
theorem emptyQ(w:World):(Instr.buildSlice 23 0 #[]).run Tryz.prog w= .ok (.slice (some ⟨w.heap.size,0,none⟩) 0 0) (w.alloc (.cells #[] 34)):=by kernel_rfl
def FrE(B:Nat)(w:World)(v:Value)(e:RE):Prop:=FrR B w v e.1 e.2.1 e.2.2
theorem FrE.grow{B:Nat}{w w':World}{v:Value}{e:RE}{lv:Value}{vs:List Value}(h:FrE B w v e)(hls:LS 34 3 B w lv vs)(hg:w.grownBy w' lv.ownBlock):FrE B w' v e:=by
 rcases hls.2.2 with⟨h1,h2⟩ |⟨g',cap',cur,h1,h2,h3,h4⟩
 ·rw[h1]at hg;exact FrR.ext h hg
 ·rw[h1]at hg;exact FrR.chgB h hg h3 (by decide)
set_option maxHeartbeats 4000000 in
theorem copyAll_calls(v:Value)(l:List RE)(w:World)(hv:SLQ w v l)(hn:l.length≤1000)(hl:∀e∈l,wordsE e≤6):
  Calls Tryz.prog 19 #[v] w fun e w'=>∃v',e= .returned v'∧SLQ w' v' l∧Ext w w':=by
 have HD:=Lib.hid hv.dig;obtain⟨ad,n,cap,hnl,rfl,hn1,hat⟩:=hv.at;rw[←hnl]at hn;have HN:=Lib.hid hnl;have HAT:=Lib.hid hat;have HW:=Lib.hid hl;have eb:=emptyQ;clear hnl hat hv hl
 go_enter Tryz.func19,Tryz.ntmps19
 go_wp2_with fail
 go_loopw [3,4] (fun s3 s4 wr=>∃(i:Nat) (ado:Option Addr) (capo:Nat),i≤n∧s4= .int .i64 (i:Int)∧s3= .slice ado i capo∧Hid (OL 34 3 w.heap.size (FrE w.heap.size) wr (.slice ado i capo) (l.take i))∧Ext w wr) (fun _ s4 _=>((n:Int) - intOf s4).toNat)
 case atStart=>exact ⟨0,some ⟨w.heap.size,0,none⟩,0,Nat.zero_le _,rfl,rfl,Lib.hid ⟨[],LS.empty _ _ _ _ (Nat.le_refl _),rfl,fun i u y h=>by simp at h⟩,(Ext.refl _).alloc _⟩
 case round=>
  obtain⟨i,ado,capo,hi,rfl,rfl,hS,hE0⟩:=hrel
  rcases Nat.eq_or_lt_of_le hi with hin |hin
  ·subst hin
   have hlt:¬((i:Int)<(i:Int)):=by omega
   have hT:SLQ wr (.slice ado i capo) l:=by
    have:=hS.out
    rw[show l.take i=l by rw[HN.out,List.take_length]]at this;obtain⟨vs,h1,h2,h3⟩:=this;exact OL.sl (t:=34) (B:=w.heap.size) ⟨vs,h1,h2,fun j u y hu hy=>⟨(h3 j u y hu hy).raw,HD.out y (List.mem_of_getElem? hy)⟩⟩ (by omega)
   have HT:=Lib.hid hT;clear hT;go_wp2;go_ret;exact⟨_,rfl,HT.out,hE0⟩
  ·have hlt:(i:Int)<(n:Int):=by omega
   obtain⟨⟨xb,xs,xt⟩,hx⟩:∃x,l[i]? =some x:=⟨_,List.getElem?_eq_getElem (by rw[←HN.out];exact hin)⟩;obtain⟨g,off,rfl,b,a1,n1,c1,a2,n2,c2, -, -,hcell⟩:=HAT.out i _ hx;obtain⟨hc0,hc1,hc2,hR⟩:=hcell wr hE0;obtain⟨vs,hls,hvl,hvs⟩:=hS.out
   have hvi:vs.length=i:=by rw[hvl,List.length_take,←HN.out];omega
   have htk:=take_next hx;have hw6:xs.length+xt.length≤6:=HW.out _ (List.mem_of_getElem? hx);subst hvi;have HTK:=Lib.hid htk;have HLS:=Lib.hid hls;have HV:=Lib.hid (And.intro hvl hvs);have HRX:=Lib.hid hR;have hwr:=hE0.size;clear hcell hx hls hvl hvs htk hR hS;go_wp2_with fail;refine(rqcopy3_calls _ xb xs xt wr HRX.out.1 (by omega) (by omega)).mono ?_;rintro e w6 ⟨v6,rfl,r6,e6⟩;obtain⟨a6,l6,k6,a6',l6',k6',rfl,r6⟩:=r6.opn;have HR6:=Lib.hid (show FrE w.heap.size w6 _ (xb,xs,xt)from r6.mono hwr);have hs6:=e6.size;clear r6 hc0 hc1 hc2
   go_wp2_with (first
    | (at_builtin;go_loud (refine wpList_append_LS rfl _ _ 23 rfl 34 3 56 w.heap.size Tryz.underlying23 (by kernel_rfl) (by kernel_rfl) (by omega) _ vs rfl (HLS.out.ext (e6.trans ((Ext.refl _).alloc _))) ⟨w6.heap.size,0,none⟩ #[.bool xb,.slice a6 l6 k6,.slice a6' l6' k6'] rfl rfl (news_new _ _ _) (by kernel_rfl) (by omega) (by omega) (by rw[alloc_size];omega) ?_);intro g' cap2' w7 hls7 hg7 hwh7 hlt7)
    |fail)
   go_roundw
   case rel=>
    have hA:=(Ext.refl w6).alloc (.cells #[.bool xb,.slice a6 l6 k6,.slice a6' l6' k6'] 34);refine⟨vs.length+1,some ⟨g',0,none⟩,cap2',by omega,by simp,rfl,Lib.hid ?_,((hE0.trans e6).trans hA).stepG hg7 HLS.out.ge⟩;rw[HTK.out];have hLA:=HLS.out.ext (e6.trans hA);exact OL.app (w:=w6.alloc (.cells #[.bool xb,.slice a6 l6 k6,.slice a6' l6' k6'] 34)) HV.out.1 (fun i u y h1 h2=>FrR.ext (HV.out.2 i u y h1 h2) (e6.trans hA)) hls7 (fun u y h=>FrE.grow h hLA hg7) (FrE.grow (FrR.ext HR6.out hA) hLA hg7)
   case measure=>simp [intOf];omega
set_option maxHeartbeats 4000000 in
theorem sameAll3_calls(v u:Value)(l m:List RE)(w:World)(hv:SLQ w v l)(hu:SLQ w u m):
  Calls Tryz.prog 26 #[v,u] w fun e w'=>e= .returned (.bool (decide (l=m)))∧Ext w w':=by
 obtain⟨ad,n,cap,hn,rfl,hn1,hat⟩:=hv.at;obtain⟨ad2,n2,cap2,hm,rfl,hm1,hat2⟩:=hu.at;have HN:=Lib.hid hn;have HM:=Lib.hid hm;have HAT:=Lib.hid hat;have HAT2:=Lib.hid hat2;clear hn hm hat hat2 hv hu
 go_enter Tryz.func26,Tryz.ntmps26
 by_cases hnm:n=n2
 ·subst hnm
  have hz:¬((n:Int)≠(n:Int)):=by simp
  go_wp2_with fail
  go_loopw [5] (fun s wr=>∃i:Nat,i≤n∧s= .int .i64 (i:Int)∧Hid (l.take i=m.take i)∧Ext w wr) (fun s _=>((n:Int) - intOf s).toNat)
  case atStart=>exact ⟨0,Nat.zero_le _,rfl,Lib.hid rfl,Ext.refl _⟩
  case round=>
   obtain⟨i,hi,rfl,hT,hE0⟩:=hrel
   rcases Nat.eq_or_lt_of_le hi with hin |hin
   ·subst hin
    have hlt:¬((i:Int)<(i:Int)):=by omega
    have he:l=m:=by have:=hT.out;rwa [HN.out,List.take_length,←HN.out,HM.out,List.take_length]at this
    have HR:=Lib.hid (decide_eq_true he);clear he;go_wp2;go_ret
    exact⟨by rw[HR.out]<;>rfl,hE0⟩
   ·have hlt:(i:Int)<(n:Int):=by omega
    obtain⟨⟨xb,xs,xt⟩,hx⟩:∃x,l[i]? =some x:=⟨_,List.getElem?_eq_getElem (by rw[←HN.out];exact hin)⟩;obtain⟨⟨yb,ys,yt⟩,hy⟩:∃x,m[i]? =some x:=⟨_,List.getElem?_eq_getElem (by rw[←HM.out];exact hin)⟩;obtain⟨g,off,rfl,b1,a1,n1,c1,a2,n2,c2, -, -,hc⟩:=HAT.out i _ hx;obtain⟨g',off',rfl,b1',a1',n1',c1',a2',n2',c2', -, -,hc'⟩:=HAT2.out i _ hy
    have HC3:Hid (∀wz,Ext w wz→∀(j:Nat) (v:Value),(#[.bool b1,.slice a1 n1 c1,.slice a2 n2 c2]:Array Value)[j]? =some v→wz.cell? ⟨g,off+i*3+j,none⟩=some v):=Lib.hid fun wz hz j v hj=>by
     obtain⟨k1,k2,k3, -⟩:=hc wz hz
     match j,hj with
     |0,hj=>cases hj;exact k1
     |1,hj=>cases hj;exact k2
     |2,hj=>cases hj;exact k3
     |j+3,hj=>simp at hj
    have HC3':Hid (∀wz,Ext w wz→∀(j:Nat) (v:Value),(#[.bool b1',.slice a1' n1' c1',.slice a2' n2' c2']:Array Value)[j]? =some v→wz.cell? ⟨g',off'+i*3+j,none⟩=some v):=Lib.hid fun wz hz j v hj=>by
     obtain⟨k1,k2,k3, -⟩:=hc' wz hz
     match j,hj with
     |0,hj=>cases hj;exact k1
     |1,hj=>cases hj;exact k2
     |2,hj=>cases hj;exact k3
     |j+3,hj=>simp at hj
    have HR:=Lib.hid (hc wr hE0).2.2.2;have HR':=Lib.hid (hc' wr hE0).2.2.2;have HXY:=Lib.hid (And.intro hx hy);obtain⟨s,hs⟩:∃s:Bool,s=decide ((xb=yb∧xs=ys)∧xt=yt):=⟨_,rfl⟩;have HS:=Lib.hid hs;clear hc hc' hx hy hs;go_wp2_with fail;refine wpQ [PP.val (.slice (some ⟨g,off,none⟩) n cap),PP.val (.int .i64 (i:Int)),PP.val (.pointer (some ⟨g,off+i*3,none⟩)),PP.val (.agg #[.bool b1,.slice a1 n1 c1,.slice a2 n2 c2]),PP.val (.slice (some ⟨g',off',none⟩) n cap2),PP.val (.int .i64 (i:Int)),PP.val (.pointer (some ⟨g',off'+i*3,none⟩)),PP.val (.agg #[.bool b1',.slice a1' n1' c1',.slice a2' n2' c2']),PP.val (.bool s),PP.val (.bool (!s))] [] [0,1,2,3,4,5,6,7,8,9] ?_ ?_
    ·refine⟨?_,?_,?_,?_,?_,?_,?_,?_,?_,?_,trivial⟩
     ·intro f w6 hG hp hl;simp only[OpGoal];go_simp;exact⟨_,rfl,Ext.refl _,rfl⟩
     ·intro f w6 hG hp hl;simp only[OpGoal];go_simp;exact⟨_,rfl,Ext.refl _,rfl⟩
     ·intro f w6 hG hp hl;have q17:=tE hp 0 0 rfl rfl rfl;have q18:=tE hp 1 1 rfl rfl rfl;simp only[OpGoal];go_simp;exact⟨_,rfl,Ext.refl _,rfl⟩
     ·intro f w6 hG hp hl;have hE:Ext wr w6:=hG;have q19:=tE hp 0 2 rfl rfl rfl;change OpGoal _ _ _ f w6 Ext _;exact og_loadAt (P:=Tryz.prog) _ _ g (off+i*3) _ _ rfl rfl q19 (fun j v h=>HC3.out _ (hE0.trans hE) j v h) Tryz.underlying34 rfl (by kernel_rfl) rfl
     ·intro f w6 hG hp hl;simp only[OpGoal];go_simp;exact⟨_,rfl,Ext.refl _,rfl⟩
     ·intro f w6 hG hp hl;simp only[OpGoal];go_simp;exact⟨_,rfl,Ext.refl _,rfl⟩
     ·intro f w6 hG hp hl;have q21:=tE hp 0 4 rfl rfl rfl;have q22:=tE hp 1 5 rfl rfl rfl;simp only[OpGoal];go_simp;exact⟨_,rfl,Ext.refl _,rfl⟩
     ·intro f w6 hG hp hl;have hE:Ext wr w6:=hG;have q23:=tE hp 0 6 rfl rfl rfl;change OpGoal _ _ _ f w6 Ext _;exact og_loadAt (P:=Tryz.prog) _ _ g' (off'+i*3) _ _ rfl rfl q23 (fun j v h=>HC3'.out _ (hE0.trans hE) j v h) Tryz.underlying34 rfl (by kernel_rfl) rfl
     ·intro f w6 hG hp hl;have hE:Ext wr w6:=hG;have q20:=tE hp 0 3 rfl rfl rfl;have q24:=tE hp 1 7 rfl rfl rfl;change OpGoal _ _ _ f w6 Ext _;refine oC #[f 3,f 7] Tryz.func22 rfl rfl ?_;rw[q20,q24];refine(rqsame3_calls _ _ xb yb xs xt ys yt _ (HR.out.1.ext hE) (HR'.out.1.ext hE)).mono ?_;rintro e w' ⟨rfl,h2⟩;exact⟨_,rfl,h2,congrArg Value.bool HS.out.symm⟩
     ·intro f w6 hG hp hl;have q25:=tE hp 0 8 rfl rfl rfl;simp only[OpGoal];go_simp;exact⟨_,rfl,Ext.refl _,rfl⟩
    ·intro f w6 hG hp;have hE:Ext wr w6:=ChgS.nil hG
     have q26:f 9= .bool (!s):=endV hp 9 (by decide) rfl (fun h=>by cases h)
     try simp only[q26]
     clear hp
     cases s with
     |true=>
      have ht:l.take (i+1)=m.take (i+1):=by
       have h1:=HS.out;have h2:=of_decide_eq_true h1.symm;rw[List.take_add_one,List.take_add_one,HXY.out.1,HXY.out.2,hT.out,h2.1.1,h2.1.2,h2.2]
      have HT:=Lib.hid ht;clear ht;go_wp2;go_roundw
      case rel=>exact ⟨i+1,by omega,congrArg (Value.int .i64) (by omega),HT,hE0.trans hE⟩
      case measure=>simp [intOf];omega
     |false=>
      have he:l≠m:=fun h=>by
       have h1:=of_decide_eq_false HS.out.symm;have h2:=HXY.out.1.symm.trans ((congrArg (fun z=>z[i]?) h).trans HXY.out.2);simp only[Option.some.injEq,Prod.mk.injEq]at h2;exact h1 ⟨⟨h2.1,h2.2.1⟩,h2.2.2⟩
      have HR:=Lib.hid (decide_eq_false he);clear he;go_wp2;go_ret
      exact⟨by rw[HR.out]<;>rfl,hE0.trans hE⟩
 ·have he:l≠m:=fun h=>hnm (by rw[HN.out,HM.out,h])
  have hz:(n:Int)≠(n2:Int):=by omega
  have HR:=Lib.hid (decide_eq_false he);clear he;go_wp2;go_ret
  exact⟨by rw[HR.out]<;>rfl,Ext.refl _⟩
theorem sameAll_true(v u:Value)(l:List RE)(w:World)(hv:SLQ w v l)(hu:SLQ w u l):Calls Tryz.prog 26 #[v,u] w fun e w'=>e= .returned (.bool true)∧Ext w w':=by
 refine(sameAll3_calls v u l l w hv hu).mono ?_;rintro e w' ⟨rfl,h⟩;exact⟨by simp,h⟩
def HurtP(Q:Nat→Prop)(w w':World):Prop:=w'.os=w.os∧w'.tape=w.tape∧w'.output=w.output∧w.heap.size≤w'.heap.size∧
 ∀k,k<w.heap.size→w'.heap[k]? =w.heap[k]? ∨(Q k∧∃cur cur',w.heap[k]? =some (.cells cur 172 (0,0))∧w'.heap[k]? =some (.cells cur' 172 (0,0))∧cur'.size=cur.size)
theorem HurtP.trans{Q:Nat→Prop}{a b c:World}(h:HurtP Q a b)(k:HurtP Q b c):HurtP Q a c:=by
 obtain⟨h1,h2,h3,h4,h5⟩:=h;obtain⟨k1,k2,k3,k4,k5⟩:=k;refine⟨k1.trans h1,k2.trans h2,k3.trans h3,Nat.le_trans h4 k4,fun g hg=> ?_⟩
 rcases h5 g hg with e1 |⟨hb,cur,cur',c1,c2,c3⟩<;>rcases k5 g (by omega)with e2 |⟨hb2,dur,dur',d1,d2,d3⟩
 ·exact .inl (e2.trans e1)
 ·exact .inr ⟨hb2,dur,dur',e1▸d1,d2,d3⟩
 ·exact .inr ⟨hb,cur,cur',c1,e2.trans c2,c3⟩
 ·refine .inr ⟨hb,cur,dur',c1,d2,?_⟩;rw[c2]at d1
  cases d1
  omega
theorem Ext.hurtsP{w w':World}(Q:Nat→Prop)(h:Ext w w'):HurtP Q w w':=⟨World.grownBy.os h,World.grownBy.tape h,World.grownBy.output h,h.size,fun k hk=> .inl (h.heap hk)⟩
theorem Bx.hurtP{Q:Nat→Prop}{t:TypeId}{w w':World}{g:Nat}{cs:Array Value}(h:Bx t w g cs)(he:HurtP Q w w')(ht:t≠172):Bx t w' g cs:=by
 rcases he.2.2.2.2 g (blk_lt h)with e1 |⟨-,cur,cur',c1, -⟩
 ·exact e1.trans h
 ·unfold Bx at h;rw[h]at c1
  cases c1
  exact absurd rfl ht
theorem HurtP.setCell{Q:Nat→Prop}{g i:Nat}{w:World}{cur:Array Value}(h:w.heap[g]? =some (.cells cur 172 (0,0)))(hB:Q g)(u:Value):HurtP Q w (w.setCell ⟨g,i,none⟩ u):=by
 have hc:=Chg.setCell w g i u;refine⟨World.grownBy.os hc,World.grownBy.tape hc,World.grownBy.output hc,hc.size,fun k hk=> ?_⟩
 by_cases hkg:k=g
 ·subst hkg;exact .inr ⟨hB,cur,_,h,heap_setCell_same w k i _ _ _ h,by simp⟩
 ·exact .inl (hc.heap hk hkg)
def ShpP(Q:Nat→Prop)(w:World)(s:Value):Prop:=∃ad l cap,s= .slice ad l cap∧l≤9223372036854775807∧(l=0∨∃g cur,ad=some ⟨g,0,none⟩∧Q g∧w.heap[g]? =some (.cells cur 172 (0,0))∧l≤cur.size)
def ShpR(Q:Nat→Prop)(w:World)(v:Value):Prop:=∃b s t,v= .agg #[.bool b,s,t]∧ShpP Q w s∧ShpP Q w t
theorem ShpP.hurtP{Q Q1:Nat→Prop}{w w':World}{s:Value}(h:ShpP Q w s)(he:HurtP Q1 w w'):ShpP Q w' s:=by
 obtain⟨ad,l,cap,h1,h2,h3⟩:=h;refine⟨ad,l,cap,h1,h2,?_⟩
 rcases h3 with h3 |⟨g,cur,h3,h4,h5,h6⟩
 ·exact .inl h3
 ·rcases he.2.2.2.2 g (blk_lt h5)with e1 |⟨-,cu,cu',c1,c2,c3⟩
  ·exact .inr ⟨g,cur,h3,h4,e1.trans h5,h6⟩
  ·rw[h5]at c1
   cases c1
   exact .inr ⟨g,cu',h3,h4,c2,by omega⟩
theorem FrL.shpP{k:IntKind}{B0 B1:Nat}{w:World}{s:Value}{xs:List Nat}(h:FrL 172 k B0 w s xs)(hB:w.heap.size≤B1):ShpP (fun k=>B0≤k∧k<B1) w s:=by
 obtain⟨ad,cap,h1,h2,h3,h4⟩:=h;refine⟨ad,_,cap,h1,by omega,?_⟩
 rcases h4 with⟨h4, -⟩ |⟨g,cur,h4,h5,h6,h7, -⟩
 ·exact .inl (by rw[vals_nil.1 h4];rfl)
 ·exact .inr ⟨g,cur,h4,⟨h5,Nat.lt_of_lt_of_le (blk_lt h6) hB⟩,h6,by omega⟩
theorem FrQ.shpP{B0 B1:Nat}{w:World}{v:Value}{q:Rat}(h:FrQ B0 w v q)(hB:w.heap.size≤B1):ShpR (fun k=>B0≤k∧k<B1) w v:=by
 obtain⟨s,t,h1,h2,h3⟩:=h;exact⟨_,s,t,h1,FrL.shpP h2 hB,FrL.shpP h3 hB⟩
theorem spoilP_calls(v:Value)(Q:Nat→Prop)(w:World)(hv:ShpR Q w v):
  Calls Tryz.prog 88 #[v] w fun e w'=>e= .returned (.tuple #[])∧HurtP Q w w':=by
 obtain⟨b,s,t,rfl,hs,ht⟩:=hv;obtain⟨ad,l,cap,rfl,hl,hs1⟩:=hs;obtain⟨ad2,m,cap2,rfl,hm,ht1⟩:=ht
 go_enter Tryz.func88,Tryz.ntmps88
 obtain⟨w1,hw1,e1,b1,s1⟩:=alloc1 w #[.bool b,.slice ad l cap,.slice ad2 m cap2] 34;go_wp2_with fail;rw[←hw1];have H1:=e1.hurtsP Q
 go_loopw [2] (fun i wr=>∃k:Nat,k≤l∧i= .int .i64 (k:Int)∧HurtP Q w wr∧Bx 34 wr w.heap.size #[.bool b,.slice ad l cap,.slice ad2 m cap2]) (fun i _=>((l:Int) - intOf i).toNat)
 case atStart=>exact ⟨0,Nat.zero_le _,rfl,H1,b1⟩
 case round=>
  obtain⟨k,hk,rfl,hH,hB⟩:=hrel;have hc0:=hB.cell 0;have hc1:=hB.cell 1;have hc2:=hB.cell 2
  rcases Nat.eq_or_lt_of_le hk with hkl |hkl
  ·subst hkl;go_wp2_with fail;clear hc0 hc1 hc2
   go_loopw [3] (fun i wr=>∃j:Nat,j≤m∧i= .int .i64 (j:Int)∧HurtP Q w wr∧Bx 34 wr w.heap.size #[.bool b,.slice ad k cap,.slice ad2 m cap2]) (fun i _=>((m:Int) - intOf i).toNat)
   case atStart=>exact ⟨0,Nat.zero_le _,rfl,hH,hB⟩
   case round=>
    obtain⟨j,hj,rfl,hH2,hB2⟩:=hrel;have hc0:=hB2.cell 0;have hc1:=hB2.cell 1;have hc2:=hB2.cell 2
    rcases Nat.eq_or_lt_of_le hj with hjl |hjl
    ·subst hjl;go_wp2
     go_end0
     exact⟨rfl,hH2⟩
    ·have hsh:ShpP Q _ _:=ShpP.hurtP (s:= .slice ad2 m cap2) ⟨_,_,_,rfl,hm,ht1⟩ hH2;obtain⟨_,_,_,hsl, -,hsg⟩:=hsh
     cases hsl
     obtain⟨g,cur,rfl,hg,hh,hcs⟩:=hsg.resolve_left (by omega);have hcg:=cell_of_row _ g j cur _ _ hh;rw[Array.getElem?_eq_getElem (by omega)]at hcg;have hfg:=frozen_of_row _ g j _ _ hh;go_wp2;go_roundw
     case rel=>exact ⟨j+1,by omega,by simp,hH2.trans (HurtP.setCell hh hg _),hB2.hurtP (HurtP.setCell hh hg _) (by decide)⟩
     case measure=>simp [intOf];omega
  ·have hsh:ShpP Q _ _:=ShpP.hurtP (s:= .slice ad l cap) ⟨_,_,_,rfl,hl,hs1⟩ hH;obtain⟨_,_,_,hsl, -,hsg⟩:=hsh
   cases hsl
   obtain⟨g,cur,rfl,hg,hh,hcs⟩:=hsg.resolve_left (by omega);have hcg:=cell_of_row _ g k cur _ _ hh;rw[Array.getElem?_eq_getElem (by omega)]at hcg;have hfg:=frozen_of_row _ g k _ _ hh;go_wp2;go_roundw
   case rel=>exact ⟨k+1,by omega,by simp,hH.trans (HurtP.setCell hh hg _),hB.hurtP (HurtP.setCell hh hg _) (by decide)⟩
   case measure=>simp [intOf];omega
def sumN(f:Nat→Rat):Nat→Rat
 |0=>0
 |n+1=>sumN f n+f n
theorem sumN_zero:∀n,sumN (fun _=>0) n=0
 |0=>rfl
 |n+1=>by unfold sumN;rw[sumN_zero n,Rat.add_zero]
def catN(ys:List Rat)(rows:List (List (Int×Rat)))(i:Nat):List (Int×Rat):=(List.range i).flatMap fun j=>scV (ys.getD j 0) (rows.getD j [])
theorem catN_zero(ys:List Rat)(rows:List (List (Int×Rat))):catN ys rows 0=[]:=rfl
theorem catN_snoc{ys:List Rat}{rows:List (List (Int×Rat))}{i:Nat}{y:Rat}{r:List (Int×Rat)}(hy:ys[i]? =some y)(hr:rows[i]? =some r):catN ys rows (i+1)=catN ys rows i++scV y r:=by
 unfold catN;rw[List.range_succ,List.flatMap_append]
 simp[List.getD,hy,hr]
theorem getD_all{α:Type}{p:α→Prop}{l:List α}{d:α}(h:∀x∈l,p x)(hd:p d)(i:Nat):p (l.getD i d):=by
 rw[List.getD_eq_getElem?_getD]
 cases hi:l[i]? with
 |none=>exact hd
 |some x=>exact h x (List.mem_of_getElem? hi)
theorem catN_len{ys:List Rat}{rows:List (List (Int×Rat))}{N:Nat}(h:∀r∈rows,r.length≤N):∀i,(catN ys rows i).length≤i*N
 |0=>by simp[catN_zero]
 |i+1=>by
  have e:catN ys rows (i+1)=catN ys rows i++scV (ys.getD i 0) (rows.getD i []):=by
   unfold catN;rw[List.range_succ,List.flatMap_append]
   simp
  have h1:=catN_len (ys:=ys) h i;have h2:(rows.getD i []).length≤N:=getD_all (p:=fun(r:List (Int×Rat))=>r.length≤N) h (by simp) i;rw[e,List.length_append,Nat.succ_mul];unfold scV;rw[List.length_map]
  omega
theorem TLE.val{w:World}{v:Value}{l:List TE}(h:TLE w v l):∃ad n cap,v= .slice ad n cap:=by
 obtain⟨ad,m,cap,h1,h2, -⟩:=h.at;exact⟨ad,m,cap,h2⟩
theorem TO.val{B k:Nat}{w:World}{v:Value}{l:List (Int×Rat)}(h:TO B k w v l):∃ad cap,v= .slice ad l.length cap:=by
 obtain⟨ts,h1,h2, -⟩:=h;obtain⟨ad,cap,e, -⟩:=h2.opn;rw[List.length_map,h1]at e;exact⟨ad,cap,e⟩
theorem TL.le{k k':Nat}{w:World}{v:Value}{l:List (Int×Rat)}(h:TL k w v l)(hk:k≤k'):TL k' w v l:=
 SL.map h fun u y ⟨b,a1,n1,c1,a2,n2,c2,e,hR⟩=>⟨b,a1,n1,c1,a2,n2,c2,e,hR.mono hk⟩
theorem TO.to{B k k':Nat}{w:World}{v:Value}{m:List (Int×Rat)}(h:TO B k w v m)(hk:∀x∈m,szQ x.2≤k'):TO B k' w v m:=by
 obtain⟨ts,h1,h2,h3⟩:=h;exact⟨ts,h1,h2,fun i t x ht hx=>⟨(h3 i t x ht hx).1,(h3 i t x ht hx).2.1,hk x (List.mem_of_getElem? hx)⟩⟩
def ratT(l:List TE):List (Int×Rat):=l.map fun e=>(e.1,ratE e.2)
theorem TO.chgB{B k g:Nat}{w w':World}{v:Value}{m:List (Int×Rat)}{t:TypeId}{cs:Array Value}(h:TO B k w v m)(hc:Chg g w w')(hb:Bx t w g cs)(ht:t≠172)(ht2:t≠96):TO B k w' v m:=by
 obtain⟨ts,h1,h2,h3⟩:=h;exact⟨ts,h1,h2.chgT hc hb ht2,fun i t x a b=>⟨(h3 i t x a b).1,(h3 i t x a b).2.1.chgB hc hb ht,(h3 i t x a b).2.2⟩⟩
theorem Up.mem_get{l:List (Int×Rat)}(h:Up l):∀x∈l,getV l x.1=x.2:=by
 induction l with
 |nil=>intro x hx;cases hx
 |cons y l ih=>
  intro x hx;rw[h.getV_cons]
  rcases List.mem_cons.1 hx with rfl |hx
  ·rw[if_pos rfl]
  ·rw[if_neg (by have:=h.tail.2.2 x hx;omega)];exact ih h.tail.1 x hx
theorem sz_mk{k:Nat}{l:List (Int×Rat)}(h:∀x∈l,szQ x.2≤k):∀x∈mkV l,szQ x.2≤l.length*(k+1)+1:=by
 intro x hx;rw[←(mkV_nf l).1.mem_get x hx,mkV_get];exact sz_get h _
theorem sz_le{k A B:Nat}{l:List (Int×Rat)}(h:∀x∈l,szQ x.2≤k)(hl:l.length≤A)(hB:A*(k+1)+1≤B):∀x∈mkV l,szQ x.2≤B:=fun x hx=>by
 have h1:=sz_mk h x hx;have h2:l.length*(k+1)≤A*(k+1):=Nat.mul_le_mul_right _ hl
 omega
theorem scV_szs{ka k:Nat}{a:Rat}{l:List (Int×Rat)}(ha:szQ a≤ka)(hl:∀x∈l,szQ x.2≤k):∀x∈scV a l,szQ x.2≤ka+k:=by
 intro x hx;unfold scV at hx;obtain⟨y,hy,rfl⟩:=List.mem_map.1 hx;exact szQ_mul ha (hl y hy)
theorem catN_szs{ky k:Nat}{ys:List Rat}{rows:List (List (Int×Rat))}(hy:∀y∈ys,szQ y≤ky)(hr:∀r∈rows,∀x∈r,szQ x.2≤k){i:Nat}(h1:i≤ys.length)(h2:i≤rows.length):∀x∈catN ys rows i,szQ x.2≤ky+k:=by
 intro x hx;unfold catN at hx;obtain⟨j,hj,hx⟩:=List.mem_flatMap.1 hx;have hji:=List.mem_range.1 hj
 have e1:ys.getD j 0=ys[j]'(by omega):=by rw[List.getD_eq_getElem?_getD,List.getElem?_eq_getElem (by omega)];rfl
 have e2:rows.getD j []=rows[j]'(by omega):=by rw[List.getD_eq_getElem?_getD,List.getElem?_eq_getElem (by omega)];rfl
 rw[e1,e2]at hx;exact scV_szs (hy _ (List.getElem_mem _)) (hr _ (List.getElem_mem _)) x hx
theorem TO.nil0(B k:Nat)(w:World):TO B k w (.slice Option.none 0 0) []:=⟨[],rfl,LS.nil _ _ _ _,fun i t x h=>by simp at h⟩
theorem mk_more(l r:List (Int×Rat)):mkV (mkV l++r)=mkV (l++r):=mkV_congr fun c=>by rw[getV_append,getV_append,mkV_get]
def weightM:List (List TE)→Nat
 | []=>0
 |l::ms=>weightE (l.map Prod.snd)+weightM ms
def greatM(ms:List (List TE)):Bool:=ms.any greatV || (decide (12<ms.length) || decide (18<weightM ms))
theorem greatM_not{ms:List (List TE)}(h:greatM ms=false):ms.length≤12∧∀l∈ms,l.length≤30∧∀e∈l,wordsE e.2≤6:=by
 unfold greatM at h;simp only[Bool.or_eq_false_iff,List.any_eq_false,decide_eq_false_iff_not]at h;refine⟨by omega,fun l hl=> ?_⟩
 have h1:greatV l=false:=by simpa using h.1 l hl
 obtain⟨k1,k2⟩:=greatE_not h1;rw[List.length_map]at k1;exact⟨k1,fun e he=>k2 e.2 (List.mem_map_of_mem he)⟩
theorem weightE_le{l:List RE}(h:greatE l=false):weightE l≤18:=by
 unfold greatE at h;simp only[Bool.or_eq_false_iff,decide_eq_false_iff_not]at h
 omega
theorem TLO.val{B:Nat}{w:World}{v:Value}{l:List TE}(h:TLO B w v l):∃ad n cap,v= .slice ad n cap:=h.tle.val
theorem TLO.mono{B B':Nat}{w:World}{v:Value}{l:List TE}(h:TLO B w v l)(hB:B'≤B):TLO B' w v l:=by
 obtain⟨⟨ts,h1,h2,h3⟩,hd⟩:=h;exact⟨⟨ts,h1,h2.mono hB,fun j t e a b=>⟨(h3 j t e a b).1,(h3 j t e a b).2.mono hB⟩⟩,hd⟩
def HurtW(Q:Nat→Prop)(w w':World):Prop:=w'.os=w.os∧w'.tape=w.tape∧w'.output=w.output∧w.heap.size≤w'.heap.size∧
 ∀k,k<w.heap.size→w'.heap[k]? =w.heap[k]? ∨(Q k∧∃cur cur' t,(t=172∨(t=96∧∀x,x % 4≠0→cur'[x]? =cur[x]?))∧w.heap[k]? =some (.cells cur t (0,0))∧w'.heap[k]? =some (.cells cur' t (0,0))∧cur'.size=cur.size)
theorem HurtP.w{Q:Nat→Prop}{w w':World}(h:HurtP Q w w'):HurtW Q w w':=by
 obtain⟨h1,h2,h3,h4,h5⟩:=h;refine⟨h1,h2,h3,h4,fun k hk=> ?_⟩
 rcases h5 k hk with e |⟨hb,cur,cur',c1,c2,c3⟩
 ·exact .inl e
 ·exact .inr ⟨hb,cur,cur',_,.inl rfl,c1,c2,c3⟩
theorem HurtW.refl(Q:Nat→Prop)(w:World):HurtW Q w w:=⟨rfl,rfl,rfl,Nat.le_refl _,fun k hk=> .inl rfl⟩
theorem Ext.hurtsW{w w':World}(Q:Nat→Prop)(h:Ext w w'):HurtW Q w w':=⟨World.grownBy.os h,World.grownBy.tape h,World.grownBy.output h,h.size,fun k hk=> .inl (h.heap hk)⟩
theorem HurtW.trans{Q:Nat→Prop}{a b c:World}(h:HurtW Q a b)(k:HurtW Q b c):HurtW Q a c:=by
 obtain⟨h1,h2,h3,h4,h5⟩:=h;obtain⟨k1,k2,k3,k4,k5⟩:=k;refine⟨k1.trans h1,k2.trans h2,k3.trans h3,Nat.le_trans h4 k4,fun g hg=> ?_⟩
 rcases h5 g hg with e1 |⟨hb,cur,cur',t,ht,c1,c2,c3⟩<;>rcases k5 g (by omega)with e2 |⟨hb2,dur,dur',u,hu,d1,d2,d3⟩
 ·exact .inl (e2.trans e1)
 ·exact .inr ⟨hb2,dur,dur',u,hu,e1▸d1,d2,d3⟩
 ·exact .inr ⟨hb,cur,cur',t,ht,c1,e2.trans c2,c3⟩
 ·rw[c2]at d1
  cases d1
  refine .inr ⟨hb,cur,dur',t,?_,c1,d2,by omega⟩
  rcases ht with ht |⟨ht,hx⟩
  ·exact .inl ht
  ·rcases hu with hu |⟨hu,hy⟩
   ·exact .inl hu
   ·exact .inr ⟨ht,fun x hn=>(hy x hn).trans (hx x hn)⟩
theorem Ext.hurtW{Q:Nat→Prop}{a w w':World}(h:Ext a w)(k:HurtW Q w w')(hB:∀k,Q k→a.heap.size≤k):Ext a w':=by
 obtain⟨k1,k2,k3,k4,k5⟩:=k;refine⟨k1.trans (World.grownBy.os h),k2.trans (World.grownBy.tape h),k3.trans (World.grownBy.output h),Nat.le_trans h.size k4,fun g hg _=> ?_⟩
 have:=h.size
 rcases k5 g (by omega)with e1 |⟨hb, -⟩
 ·exact e1.trans (h.heap hg)
 ·have:=hB g hb;omega
theorem Bx.hurtW{Q:Nat→Prop}{t:TypeId}{w w':World}{g:Nat}{cs:Array Value}(h:Bx t w g cs)(he:HurtW Q w w')(ht:t≠172)(ht2:t≠96):Bx t w' g cs:=by
 rcases he.2.2.2.2 g (blk_lt h)with e1 |⟨-,cur,cur',u,hu,c1, -⟩
 ·exact e1.trans h
 ·unfold Bx at h;rw[h]at c1
  cases c1
  exact absurd (hu.imp_right And.left) (not_or.2 ⟨ht,ht2⟩)
theorem Bx.hurtTW{Q:Nat→Prop}{w w':World}{g:Nat}{cs:Array Value}(h:Bx 96 w g cs)(he:HurtW Q w w'):∃cs',Bx 96 w' g cs'∧cs'.size=cs.size∧∀x,x % 4≠0→cs'[x]? =cs[x]? :=by
 rcases he.2.2.2.2 g (blk_lt h)with e1 |⟨-,cur,cur',u,hu,c1,c2,c3⟩
 ·exact⟨cs,e1.trans h,rfl,fun x _=>rfl⟩
 ·unfold Bx at h;rw[h]at c1
  cases c1
  rcases hu with hu |⟨-,hu⟩
  ·exact absurd hu (by decide)
  ·exact⟨cur',c2,c3,hu⟩
theorem ShpP.hurtW{Q Q1:Nat→Prop}{w w':World}{s:Value}(h:ShpP Q w s)(he:HurtW Q1 w w'):ShpP Q w' s:=by
 obtain⟨ad,l,cap,h1,h2,h3⟩:=h;refine⟨ad,l,cap,h1,h2,?_⟩
 rcases h3 with h3 |⟨g,cur,h3,h4,h5,h6⟩
 ·exact .inl h3
 ·rcases he.2.2.2.2 g (blk_lt h5)with e1 |⟨-,cu,cu',u,hu,c1,c2,c3⟩
  ·exact .inr ⟨g,cur,h3,h4,e1.trans h5,h6⟩
  ·rw[h5]at c1
   cases c1
   exact .inr ⟨g,cu',h3,h4,c2,by omega⟩
theorem ShpR.hurtW{Q Q1:Nat→Prop}{w w':World}{v:Value}(h:ShpR Q w v)(he:HurtW Q1 w w'):ShpR Q w' v:=by
 obtain⟨b,s,t,h1,h2,h3⟩:=h;exact⟨b,s,t,h1,h2.hurtW he,h3.hurtW he⟩
theorem HurtW.setCell{Q:Nat→Prop}{g i:Nat}{w:World}{cur:Array Value}(h:Bx 96 w g cur)(hB:Q g)(hi:i % 4=0)(u:Value):HurtW Q w (w.setCell ⟨g,i,none⟩ u):=by
 have hc:=Chg.setCell w g i u;refine⟨World.grownBy.os hc,World.grownBy.tape hc,World.grownBy.output hc,hc.size,fun k hk=> ?_⟩
 by_cases hkg:k=g
 ·subst hkg;refine .inr ⟨hB,cur,_,_,.inr ⟨rfl,fun x hx=> ?_⟩,h,heap_setCell_same w k i _ _ _ h,by simp⟩;rw[Array.getElem?_setIfInBounds,if_neg (by omega)]
 ·exact .inl (hc.heap hk hkg)
def SpBW(Q:Nat→Prop)(n:Nat)(w:World)(g:Nat):Prop:=Q g∧∃cs,Bx 96 w g cs∧n*4≤cs.size∧∀i,i<n→∃b a1 n1 c1 a2 n2 c2,cs[i*4+1]? =some (.bool b)∧cs[i*4+2]? =some (.slice a1 n1 c1)∧cs[i*4+3]? =some (.slice a2 n2 c2)∧ShpR Q w (.agg #[.bool b,.slice a1 n1 c1,.slice a2 n2 c2])
def SpW(Q:Nat→Prop)(w:World)(v:Value):Prop:=∃ad n cap,v= .slice ad n cap∧n≤9223372036854775807∧(n=0∨∃g,ad=some ⟨g,0,none⟩∧SpBW Q n w g)
theorem SpBW.hurtW{Q Q1:Nat→Prop}{n g:Nat}{w w':World}(h:SpBW Q n w g)(he:HurtW Q1 w w'):SpBW Q n w' g:=by
 obtain⟨h1,cs,h2,h3,h4⟩:=h;obtain⟨cs',k1,k2,k3⟩:=h2.hurtTW he;refine⟨h1,cs',k1,by omega,fun i hi=> ?_⟩;obtain⟨b,a1,n1,c1,a2,n2,c2,j1,j2,j3,j4⟩:=h4 i hi;exact⟨b,a1,n1,c1,a2,n2,c2,by rw[k3 _ (by omega)];exact j1,by rw[k3 _ (by omega)];exact j2,by rw[k3 _ (by omega)];exact j3,j4.hurtW he⟩
theorem SpW.hurtW{Q Q1:Nat→Prop}{w w':World}{v:Value}(h:SpW Q w v)(he:HurtW Q1 w w'):SpW Q w' v:=by
 obtain⟨ad,n,cap,h1,h2,h3⟩:=h;exact⟨ad,n,cap,h1,h2,h3.imp_right fun⟨g,a,b⟩=>⟨g,a,b.hurtW he⟩⟩
theorem SpW.ext{Q:Nat→Prop}{w w':World}{v:Value}(h:SpW Q w v)(he:Ext w w'):SpW Q w' v:=h.hurtW (he.hurtsW fun _=>True)
theorem TO.spw{B k B1:Nat}{w:World}{v:Value}{m:List (Int×Rat)}(h:TO B k w v m)(hB:w.heap.size≤B1):SpW (fun k=>B≤k∧k<B1) w v:=by
 obtain⟨ts,h1,h2,h3⟩:=h;obtain⟨ad,cap,e1, -,e3, -⟩:=h2.opn;refine⟨ad,_,cap,e1,by have:=h2.opn;obtain⟨ad',cap',f1,f2,f3, -⟩:=this;omega,?_⟩
 rcases Nat.eq_zero_or_pos (ts.map tmv).length with h0 |h0
 ·exact .inl h0
 obtain⟨g,cap',rest,f1,f2,f3,f4,f5,f6⟩:=h2.hold h0;rw[e1]at f1;simp only[Value.slice.injEq]at f1;refine .inr ⟨g,f1.1,⟨f2,Nat.lt_of_lt_of_le (blk_lt f6) hB⟩,_,f6,by have:=flatS_len h2.1.size;simp only[List.size_toArray,List.length_append];omega,fun i hi=> ?_⟩;rw[List.length_map]at hi;obtain⟨t,ht⟩:∃t,ts[i]? =some t:=⟨_,List.getElem?_eq_getElem hi⟩;obtain⟨x,hx⟩:∃x,m[i]? =some x:=⟨_,List.getElem?_eq_getElem (by omega)⟩;have hHT:HoldT g rest w ts:=⟨strN_tmv _,f6⟩;have hb:Bx 96 w g (flatS (ts.map tmv)++rest).toArray:=f6
 have hel:∀(j:Nat) (u:Value),(tmv t).cells[j]? =some u→(flatS (ts.map tmv)++rest).toArray[i*4+j]? =some u:=fun j u hj=>by
  rw[←hb.cell];exact hHT.at ht w (Ext.refl w) j u hj
 exact⟨t.b,t.a1,t.n1,t.c1,t.a2,t.n2,t.c2,hel 1 _ rfl,hel 2 _ rfl,hel 3 _ rfl,(h3 i t x ht hx).2.1.shpP hB⟩
set_option maxHeartbeats 4000000 in
theorem spoil5w_calls(Q:Nat→Prop)(v:Value)(w:World)(h:SpW Q w v):
  Calls Tryz.prog 51 #[v] w fun e w'=>e= .returned (.tuple #[])∧HurtW Q w w':=by
 obtain⟨ad,n,cap,rfl,hn,h2⟩:=h;have H2:=Lib.hid h2;clear h2
 go_enter Tryz.func51,Tryz.ntmps51
 go_wp2_with fail
 go_loopw [2] (fun s2 wr=>∃i:Nat,i≤n∧s2= .int .i64 (i:Int)∧HurtW Q w wr) (fun s2 _=>((n:Int) - intOf s2).toNat)
 case atStart=>exact ⟨0,Nat.zero_le _,rfl,HurtW.refl _ _⟩
 case round=>
  obtain⟨i,hi,rfl,hH⟩:=hrel
  rcases Nat.eq_or_lt_of_le hi with hin |hin
  ·subst hin
   have hlt:¬((i:Int)<(i:Int)):=by omega
   go_wp2
   go_end0
   exact⟨rfl,hH⟩
  ·have hlt:(i:Int)<(n:Int):=by omega
   obtain⟨g,rfl,hb⟩:=H2.out.resolve_left (by omega);have hb1:=hb.hurtW hH;obtain⟨hBg,cs,hbx,hsz,hel⟩:=hb1;obtain⟨b,a1,n1,c1,a2,n2,c2,j1,j2,j3,j4⟩:=hel i hin
   have hc1:wr.cell? ⟨g,i*4+1,none⟩=some (.bool b):=by rw[hbx.cell];exact j1
   have hc2:wr.cell? ⟨g,i*4+2,none⟩=some (.slice a1 n1 c1):=by rw[hbx.cell];exact j2
   have hc3:wr.cell? ⟨g,i*4+3,none⟩=some (.slice a2 n2 c2):=by rw[hbx.cell];exact j3
   have HSh:=Lib.hid j4;have HBX:=Lib.hid hbx
   have hlt4:i*4<cs.size:=by omega
   clear hel j1 j2 j3 j4 hbx hb;go_wp2_with fail;refine(spoilP_calls _ Q wr HSh.out).mono ?_;rintro e w2 ⟨rfl,h2⟩;have hb2:=HBX.out.hurtP h2 (by decide);have hf0:=hb2.free (i*4);have HV2:=Lib.hid (And.intro (hH.trans h2.w) hb2);have hc0:=hb2.cell (i*4);rw[Array.getElem?_eq_getElem hlt4]at hc0;clear hc1 hc2 hc3 h2 hb2;go_wp2;go_roundw
   case rel=>exact ⟨i+1,by omega,by simp,HV2.out.1.trans (HurtW.setCell HV2.out.2 hBg (by omega) _)⟩
   case measure=>simp [intOf];omega
open Go.ChangeShapes Go.WideShapes Go.ChangeAt
theorem cellsTs:Tryz.prog.cellsOf 29=1:=by kernel_rfl
section
variable {H:Type} {enc:TypeId×Value→H} {w:World} {base:Nat} {spare:Nat→Bool} {held:Bool}
theorem open_termsF{fuel:Nat}{cs:List Value}{x:DataW H×List MemPlace}(B:Nat)(hb:B≤4611686018427387903)(hB:∀n∈x.1.weights Tryz.prog 29,n≤B)(hf:DataW.trod enc Tryz.prog w base spare held fuel 29 cs=some x):
  ∃v l,cs=[v]∧TLE w v l:=by
 obtain⟨v',ys,h1,h2,h3, -⟩:=open_structs (R:=TmE) (F:=fun _ _=>True) B Tryz.underlying29 cellsTm (by omega) (fun fuel cs x hl hw hx=>by
  obtain⟨c,b,s,t,xs,ys,rfl,wc,hL,hd,hL2,hd2,hB2⟩:=open_termC hx;have hh:=hB2 B hw;have hE:RawE w (.agg #[.bool b,s,t]) (b,xs,ys):=⟨⟨s,t,rfl,hL,hL2⟩,hd,hd2,by show xs.length+ys.length≤_;omega⟩;have hL':=hL;have hL2':=hL2;obtain⟨a1,c1,rfl, -⟩:=hL';obtain⟨a2,c2,rfl, -⟩:=hL2'
  exact⟨(c,b,xs,ys),⟨b,a1,_,c1,a2,_,c2,rfl,hE⟩,trivial⟩) hB hf
 exact⟨v',ys,h1,h2⟩
end
end Go.Proofs.YtokfaggcojokgaaGreat
