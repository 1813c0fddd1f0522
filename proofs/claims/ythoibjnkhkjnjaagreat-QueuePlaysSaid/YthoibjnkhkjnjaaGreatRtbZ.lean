/-
 The document's whole numbers, walked (II).
-/
import Derived.Test.YthoibjnkhkjnjaaGreatRtaZ
namespace Go.Proofs.YthoibjnkhkjnjaaGreat
set_option maxRecDepth 100000
set_option maxHeartbeats 1000000
open Go.RowKit
set_option linter.unusedVariables false
set_option linter.unusedSimpArgs false
theorem CZ.parts{w:World}{v:Value}{z:Int}(h:CZ w v z):∃b s n,v= .agg #[.bool b,s]∧IsC .i64 TK w s n∧z=sgn b n:=by
 obtain⟨s,h1,h2⟩:=h;exact⟨_,s,_,h1,h2,(sgn_self z).symm⟩
theorem szT_mul(x y:Int):szT (x*y)≤szT x+szT y:=by
 unfold szT;rw[Int.natAbs_mul];exact dg_len_mul TK_gt _ _
theorem szT_neg(x:Int):szT (-x)=szT x:=by unfold szT;rw[Int.natAbs_neg]
theorem szT_sgn(b:Bool)(n:Nat):szT (sgn b n)=sz TK n:=by unfold szT;rw[sgn_natAbs]
theorem zto2_calls(v:Value)(z:Int)(w:World)(hv:CZ w v z)(hsz:szT z≤68719476736):
  Calls Tryz.prog 42 #[v] w fun e w'=>∃v',e= .returned v'∧FrZ w.heap.size w' v' z∧Ext w w':=by
 obtain⟨s,rfl,hs⟩:=hv;unfold szT at hsz
 go_enter Tryz.func42,Tryz.ntmps42
 go_wp2_with fail;obtain⟨w1,hw1,e1,b1,b2,s1⟩:=alloc2 w #[.bool (decide (z<0)),s] #[.bool false,.slice none 0 0] 64 34;rw[←hw1];clear hw1;refine wpP [⟨6,(w.heap.size+1),34,PP.frZ z⟩] [PP.val (.pointer (some ⟨w.heap.size,0,none⟩)),PP.val (.bool (decide (z<0))),PP.val (.pointer (some ⟨w.heap.size,1,none⟩)),PP.val (s),PP.frN 61 .u64 W z.natAbs,PP.frZ z,PP.any] [] [6,5,4,3,2,1,0] ?_ ?_ ?_ ?_ ?_
 ·intro x hx;simp only[List.mem_singleton]at hx;subst hx;exact⟨by show(w.heap.size+1)<w1.heap.size;omega,rfl⟩
 ·intro x hx;simp only[List.mem_singleton]at hx;subst hx;rfl
 ·intro x hx y hy h;simp only[List.mem_singleton]at hx hy;subst hx hy;exact absurd rfl h
 ·refine⟨?_,?_,?_,?_,?_,?_,?_,trivial⟩
  ·intro f w2 hG hp hl;simp only[OpGoal];go_simp;exact⟨_,rfl,Ext.refl _,rfl⟩
  ·intro f w2 hG hp hl;have hE:Ext w1 w2:=hG;have q3:=tE hp 0 0 rfl rfl rfl;have hcell:=(b1.ext hE).cell 0;simp only[OpGoal];go_simp;exact⟨_,rfl,Ext.refl _,rfl⟩
  ·intro f w2 hG hp hl;simp only[OpGoal];go_simp;exact⟨_,rfl,Ext.refl _,rfl⟩
  ·intro f w2 hG hp hl;have hE:Ext w1 w2:=hG;have q5:=tE hp 0 2 rfl rfl rfl;have hcell:=(b1.ext hE).cell 1;simp only[OpGoal];go_simp;exact⟨_,rfl,Ext.refl _,rfl⟩
  ·intro f w2 hG hp hl;have hE:Ext w1 w2:=hG;have hS:=hE.size;have q6:=tE hp 0 3 rfl rfl rfl;change OpGoal _ _ _ f w2 Ext _;refine oC #[f 3] Tryz.func43 rfl rfl ?_;rw[q6];refine(rto01_calls _ z.natAbs _ ((hs.isN TK_gt (by rw[LIM_eq];omega)).ext (e1.trans hE)) hsz).mono ?_;rintro e w' ⟨v',rfl,h1,h2⟩;exact⟨v',rfl,h2,h1.mono hS⟩
  ·intro f w2 hG hp hl;have hE:Ext w1 w2:=hG;have q4:=tE hp 0 1 rfl rfl rfl;have q7:=tellV hp 1 4 rfl rfl (fun _=>hE);obtain⟨ad,cap,hv⟩:=FrN.slice q7;simp only[OpGoal];go_simp;exact⟨_,rfl,Ext.refl _,_,rfl,hv▸q7⟩
  ·intro f w2 hG hp hl;have hE:Ext w1 w2:=hG;have hS:=hE.size;have q8:=tellV hp 0 5 rfl rfl (fun _=>hE);intro hg0;change OpGoal _ _ _ f w2 (Chg _) _;obtain⟨s',hv,hn⟩:=q8;exact og_store (P:=Tryz.prog) _ _ _ (w.heap.size+1) _ _ _ (PP.frZ _:PP _).p rfl rfl rfl hv (show Bx 34 w2 _ _ from hg0.trans b2) (by kernel_rfl) rfl (all2 rfl hn.oneCell) (fun w' h=>⟨s',rfl,hn.chg h (by omega)⟩)
 ·intro f w2 hG hp;obtain⟨cs0,hbx0,hz0⟩:∃cs,Bx 34 w2 (w.heap.size+1) cs∧(PP.frZ z:PP w1.heap.size).p (.agg cs) w2:=endS hp 6 (by decide);clear hp;have hz1:=hz0.mono (show w.heap.size≤_ by omega);obtain⟨s',hv,hn⟩:=hz0
  cases hv
  go_wp2;refine ret_box 2 34 (w.heap.size+1) 34 _ _ (by kernel_rfl) rfl hbx0 Tryz.underlying34 rfl (by kernel_rfl) rfl ?_;exact⟨_,rfl,hz1,e1.stepS hG (by simp)⟩
theorem zadd2_calls(v u:Value)(x y:Int)(w:World)(hv:CZ w v x)(hu:CZ w u y)(hsx:szT x≤68719476736)(hsy:szT y≤68719476736):
  Calls Tryz.prog 107 #[v,u] w fun e w'=>∃v',e= .returned v'∧FrZd w.heap.size w' v' (x+y)∧Ext w w':=by
 obtain⟨b,s,n,rfl,hs,rfl⟩:=hv.parts;obtain⟨c,t,m,rfl,ht,rfl⟩:=hu.parts;rw[szT_sgn]at hsx hsy;clear hv hu;have hsN:=hs.isN TK_gt (by rw[LIM_eq];omega);have htN:=ht.isN TK_gt (by rw[LIM_eq];omega)
 go_enter Tryz.func107,Tryz.ntmps107
 by_cases hbc:b=c
 ·subst hbc;go_wp2_with fail;obtain⟨w1,hw1,e1,b1,b2,b3,s1⟩:=alloc3 w #[.bool b,s] #[.bool b,t] #[.bool false,.slice none 0 0] 64 64 64;rw[←hw1];clear hw1;refine wpP [⟨8,(w.heap.size+2),64,PP.frZd (sgn b (n+m))⟩] [PP.val (.pointer (some ⟨w.heap.size,0,none⟩)),PP.val (.bool b),PP.val (.pointer (some ⟨w.heap.size,1,none⟩)),PP.val (s),PP.val (.pointer (some ⟨(w.heap.size+1),1,none⟩)),PP.val (t),PP.frN 3 .i64 TK (n+m),PP.frZd (sgn b (n+m)),PP.any] [] [8,7,6,5,4,3,2,1,0] ?_ ?_ ?_ ?_ ?_
  ·intro x hx;simp only[List.mem_singleton]at hx;subst hx;exact⟨by show(w.heap.size+2)<w1.heap.size;omega,rfl⟩
  ·intro x hx;simp only[List.mem_singleton]at hx;subst hx;rfl
  ·intro x hx y hy h;simp only[List.mem_singleton]at hx hy;subst hx hy;exact absurd rfl h
  ·refine⟨?_,?_,?_,?_,?_,?_,?_,?_,?_,trivial⟩
   ·intro f w2 hG hp hl;simp only[OpGoal];go_simp;exact⟨_,rfl,Ext.refl _,rfl⟩
   ·intro f w2 hG hp hl;have hE:Ext w1 w2:=hG;have q10:=tE hp 0 0 rfl rfl rfl;have hcell:=(b1.ext hE).cell 0;simp only[OpGoal];go_simp;exact⟨_,rfl,Ext.refl _,rfl⟩
   ·intro f w2 hG hp hl;simp only[OpGoal];go_simp;exact⟨_,rfl,Ext.refl _,rfl⟩
   ·intro f w2 hG hp hl;have hE:Ext w1 w2:=hG;have q12:=tE hp 0 2 rfl rfl rfl;have hcell:=(b1.ext hE).cell 1;simp only[OpGoal];go_simp;exact⟨_,rfl,Ext.refl _,rfl⟩
   ·intro f w2 hG hp hl;simp only[OpGoal];go_simp;exact⟨_,rfl,Ext.refl _,rfl⟩
   ·intro f w2 hG hp hl;have hE:Ext w1 w2:=hG;have q14:=tE hp 0 4 rfl rfl rfl;have hcell:=(b2.ext hE).cell 1;simp only[OpGoal];go_simp;exact⟨_,rfl,Ext.refl _,rfl⟩
   ·intro f w2 hG hp hl;have hE:Ext w1 w2:=hG;have hS:=hE.size;have q13:=tE hp 0 3 rfl rfl rfl;have q15:=tE hp 1 5 rfl rfl rfl;change OpGoal _ _ _ f w2 Ext _;refine oC #[f 3,f 5] Tryz.func65 rfl rfl ?_;rw[q13,q15];refine(radd01_calls _ _ n m _ (hsN.ext (e1.trans hE)) (htN.ext (e1.trans hE)) hsx hsy).mono ?_;rintro e w' ⟨v',rfl,h1,h2⟩;exact⟨v',rfl,h2,h1.mono hS⟩
   ·intro f w2 hG hp hl;have hE:Ext w1 w2:=hG;have hS:=hE.size;have q11:=tE hp 0 1 rfl rfl rfl;have q16:=tellV hp 1 6 rfl rfl (fun _=>hE);change OpGoal _ _ _ f w2 Ext _;refine oC #[f 1,f 6] Tryz.func68 rfl rfl ?_;rw[q11];refine(form_calls2 _ _ _ _ (q16.isC.isN TK_gt (Nat.le_trans (dg_len_add TK_gt n m) (by unfold sz at hsx hsy;rw[LIM_eq];omega)))).mono ?_;rintro e w' ⟨v',rfl,h1,h2⟩;exact⟨v',rfl,h2,h1.mono hS⟩
   ·intro f w2 hG hp hl;have hE:Ext w1 w2:=hG;have hS:=hE.size;have q17:=tellV hp 0 7 rfl rfl (fun _=>hE);intro hg0;change OpGoal _ _ _ f w2 (Chg _) _;obtain⟨s',hv,hn⟩:=q17;exact og_store (P:=Tryz.prog) _ _ _ (w.heap.size+2) _ _ _ (PP.frZd _:PP _).p rfl rfl rfl hv (show Bx 64 w2 _ _ from hg0.trans b3) (by kernel_rfl) rfl (all2 rfl hn.oneCell) (fun w' h=>⟨s',rfl,hn.chg h (by omega)⟩)
  ·intro f w2 hG hp;obtain⟨cs0,hbx0,hz0⟩:∃cs,Bx 64 w2 (w.heap.size+2) cs∧(PP.frZd (sgn b (n+m)):PP w1.heap.size).p (.agg cs) w2:=endS hp 8 (by decide);clear hp;have hz1:=hz0.mono (show w.heap.size≤_ by omega);obtain⟨s',hv,hn⟩:=hz0
   cases hv
   go_wp2;refine ret_box 4 64 (w.heap.size+2) 64 _ _ (by kernel_rfl) rfl hbx0 Tryz.underlying64 rfl (by kernel_rfl) rfl ?_
   rw[show sgn b n+sgn b m=sgn b (n+m)by cases b<;>simp [sgn]<;>omega]
   exact⟨_,rfl,hz1,e1.stepS hG (by simp)⟩
 ·have hc:c=!b:=by cases b<;>cases c<;>simp_all
  have hdec:(b==!b)=false:=by cases b<;>rfl
  subst hc;go_wp2_with fail;obtain⟨w1,hw1,e1,b1,b2,b3,s1⟩:=alloc3 w #[.bool b,s] #[.bool !b,t] #[.bool false,.slice none 0 0] 64 64 64;rw[←hw1];clear hw1;refine(rcmp01_calls _ _ n m _ (hsN.ext e1) (htN.ext e1)).mono ?_;rintro e w2 ⟨rfl,e2⟩;have B1:=b1.ext e2;have B2:=b2.ext e2;have B3:=b3.ext e2;have E:=e1.trans e2;have es2:=e2.size
  rcases(show m≤n∨n<m by omega)with hle |hlt
  ·have hcm:0≤cmpN n m:=by unfold cmpN;rw[if_neg (by omega)];split<;>omega
   go_wp2_with fail;refine wpP [⟨8,(w.heap.size+2),64,PP.frZd (sgn b (n - m))⟩] [PP.val (.pointer (some ⟨w.heap.size,0,none⟩)),PP.val (.bool b),PP.val (.pointer (some ⟨w.heap.size,1,none⟩)),PP.val (s),PP.val (.pointer (some ⟨(w.heap.size+1),1,none⟩)),PP.val (t),PP.frN 3 .i64 TK (n - m),PP.frZd (sgn b (n - m)),PP.any] [] [8,7,6,5,4,3,2,1,0] ?_ ?_ ?_ ?_ ?_
   ·intro x hx;simp only[List.mem_singleton]at hx;subst hx;exact⟨by show(w.heap.size+2)<w2.heap.size;omega,rfl⟩
   ·intro x hx;simp only[List.mem_singleton]at hx;subst hx;rfl
   ·intro x hx y hy h;simp only[List.mem_singleton]at hx hy;subst hx hy;exact absurd rfl h
   ·refine⟨?_,?_,?_,?_,?_,?_,?_,?_,?_,trivial⟩
    ·intro f w3 hG hp hl;simp only[OpGoal];go_simp;exact⟨_,rfl,Ext.refl _,rfl⟩
    ·intro f w3 hG hp hl;have hE:Ext w2 w3:=hG;have q24:=tE hp 0 0 rfl rfl rfl;have hcell:=(B1.ext hE).cell 0;simp only[OpGoal];go_simp;exact⟨_,rfl,Ext.refl _,rfl⟩
    ·intro f w3 hG hp hl;simp only[OpGoal];go_simp;exact⟨_,rfl,Ext.refl _,rfl⟩
    ·intro f w3 hG hp hl;have hE:Ext w2 w3:=hG;have q26:=tE hp 0 2 rfl rfl rfl;have hcell:=(B1.ext hE).cell 1;simp only[OpGoal];go_simp;exact⟨_,rfl,Ext.refl _,rfl⟩
    ·intro f w3 hG hp hl;simp only[OpGoal];go_simp;exact⟨_,rfl,Ext.refl _,rfl⟩
    ·intro f w3 hG hp hl;have hE:Ext w2 w3:=hG;have q28:=tE hp 0 4 rfl rfl rfl;have hcell:=(B2.ext hE).cell 1;simp only[OpGoal];go_simp;exact⟨_,rfl,Ext.refl _,rfl⟩
    ·intro f w3 hG hp hl;have hE:Ext w2 w3:=hG;have hS:=hE.size;have q27:=tE hp 0 3 rfl rfl rfl;have q29:=tE hp 1 5 rfl rfl rfl;change OpGoal _ _ _ f w3 Ext _;refine oC #[f 3,f 5] Tryz.func96 rfl rfl ?_;rw[q27,q29];refine(rsub01_calls _ _ n m _ (hsN.ext (E.trans hE)) (htN.ext (E.trans hE)) hle).mono ?_;rintro e w' ⟨v',rfl,h1,h2⟩;exact⟨v',rfl,h2,h1.mono hS⟩
    ·intro f w3 hG hp hl;have hE:Ext w2 w3:=hG;have hS:=hE.size;have q25:=tE hp 0 1 rfl rfl rfl;have q30:=tellV hp 1 6 rfl rfl (fun _=>hE);change OpGoal _ _ _ f w3 Ext _;refine oC #[f 1,f 6] Tryz.func68 rfl rfl ?_;rw[q25];refine(form_calls2 _ _ _ _ (q30.isC.isN TK_gt (Nat.le_trans (dg_len_mono TK_gt (show n - m≤n by omega)) (by unfold sz at hsx;rw[LIM_eq];omega)))).mono ?_;rintro e w' ⟨v',rfl,h1,h2⟩;exact⟨v',rfl,h2,h1.mono hS⟩
    ·intro f w3 hG hp hl;have hE:Ext w2 w3:=hG;have hS:=hE.size;have q31:=tellV hp 0 7 rfl rfl (fun _=>hE);intro hg0;change OpGoal _ _ _ f w3 (Chg _) _;obtain⟨s',hv,hn⟩:=q31;exact og_store (P:=Tryz.prog) _ _ _ (w.heap.size+2) _ _ _ (PP.frZd _:PP _).p rfl rfl rfl hv (show Bx 64 w3 _ _ from hg0.trans B3) (by kernel_rfl) rfl (all2 rfl hn.oneCell) (fun w' h=>⟨s',rfl,hn.chg h (by omega)⟩)
   ·intro f w3 hG hp;obtain⟨cs0,hbx0,hz0⟩:∃cs,Bx 64 w3 (w.heap.size+2) cs∧(PP.frZd (sgn b (n - m)):PP w2.heap.size).p (.agg cs) w3:=endS hp 8 (by decide);clear hp;have hz1:=hz0.mono (show w.heap.size≤_ by omega);obtain⟨s',hv,hn⟩:=hz0
    cases hv
    go_wp2;refine ret_box 4 64 (w.heap.size+2) 64 _ _ (by kernel_rfl) rfl hbx0 Tryz.underlying64 rfl (by kernel_rfl) rfl ?_
    rw[show sgn b n+sgn (!b) m=sgn b (n - m)by cases b<;>simp [sgn]<;>omega]
    exact⟨_,rfl,hz1,E.stepS hG (by simp)⟩
  ·have hcm:¬0≤cmpN n m:=by unfold cmpN;rw[if_pos hlt];omega
   go_wp2_with fail;refine wpP [⟨8,(w.heap.size+2),64,PP.frZd (sgn (!b) (m - n))⟩] [PP.val (.pointer (some ⟨(w.heap.size+1),0,none⟩)),PP.val (.bool !b),PP.val (.pointer (some ⟨(w.heap.size+1),1,none⟩)),PP.val (t),PP.val (.pointer (some ⟨w.heap.size,1,none⟩)),PP.val (s),PP.frN 3 .i64 TK (m - n),PP.frZd (sgn (!b) (m - n)),PP.any] [] [8,7,6,5,4,3,2,1,0] ?_ ?_ ?_ ?_ ?_
   ·intro x hx;simp only[List.mem_singleton]at hx;subst hx;exact⟨by show(w.heap.size+2)<w2.heap.size;omega,rfl⟩
   ·intro x hx;simp only[List.mem_singleton]at hx;subst hx;rfl
   ·intro x hx y hy h;simp only[List.mem_singleton]at hx hy;subst hx hy;exact absurd rfl h
   ·refine⟨?_,?_,?_,?_,?_,?_,?_,?_,?_,trivial⟩
    ·intro f w3 hG hp hl;simp only[OpGoal];go_simp;exact⟨_,rfl,Ext.refl _,rfl⟩
    ·intro f w3 hG hp hl;have hE:Ext w2 w3:=hG;have q32:=tE hp 0 0 rfl rfl rfl;have hcell:=(B2.ext hE).cell 0;simp only[OpGoal];go_simp;exact⟨_,rfl,Ext.refl _,rfl⟩
    ·intro f w3 hG hp hl;simp only[OpGoal];go_simp;exact⟨_,rfl,Ext.refl _,rfl⟩
    ·intro f w3 hG hp hl;have hE:Ext w2 w3:=hG;have q34:=tE hp 0 2 rfl rfl rfl;have hcell:=(B2.ext hE).cell 1;simp only[OpGoal];go_simp;exact⟨_,rfl,Ext.refl _,rfl⟩
    ·intro f w3 hG hp hl;simp only[OpGoal];go_simp;exact⟨_,rfl,Ext.refl _,rfl⟩
    ·intro f w3 hG hp hl;have hE:Ext w2 w3:=hG;have q36:=tE hp 0 4 rfl rfl rfl;have hcell:=(B1.ext hE).cell 1;simp only[OpGoal];go_simp;exact⟨_,rfl,Ext.refl _,rfl⟩
    ·intro f w3 hG hp hl;have hE:Ext w2 w3:=hG;have hS:=hE.size;have q35:=tE hp 0 3 rfl rfl rfl;have q37:=tE hp 1 5 rfl rfl rfl;change OpGoal _ _ _ f w3 Ext _;refine oC #[f 3,f 5] Tryz.func96 rfl rfl ?_;rw[q35,q37];refine(rsub01_calls _ _ m n _ (htN.ext (E.trans hE)) (hsN.ext (E.trans hE)) (by omega)).mono ?_;rintro e w' ⟨v',rfl,h1,h2⟩;exact⟨v',rfl,h2,h1.mono hS⟩
    ·intro f w3 hG hp hl;have hE:Ext w2 w3:=hG;have hS:=hE.size;have q33:=tE hp 0 1 rfl rfl rfl;have q38:=tellV hp 1 6 rfl rfl (fun _=>hE);change OpGoal _ _ _ f w3 Ext _;refine oC #[f 1,f 6] Tryz.func68 rfl rfl ?_;rw[q33];refine(form_calls2 _ _ _ _ (q38.isC.isN TK_gt (Nat.le_trans (dg_len_mono TK_gt (show m - n≤m by omega)) (by unfold sz at hsy;rw[LIM_eq];omega)))).mono ?_;rintro e w' ⟨v',rfl,h1,h2⟩;exact⟨v',rfl,h2,h1.mono hS⟩
    ·intro f w3 hG hp hl;have hE:Ext w2 w3:=hG;have hS:=hE.size;have q39:=tellV hp 0 7 rfl rfl (fun _=>hE);intro hg0;change OpGoal _ _ _ f w3 (Chg _) _;obtain⟨s',hv,hn⟩:=q39;exact og_store (P:=Tryz.prog) _ _ _ (w.heap.size+2) _ _ _ (PP.frZd _:PP _).p rfl rfl rfl hv (show Bx 64 w3 _ _ from hg0.trans B3) (by kernel_rfl) rfl (all2 rfl hn.oneCell) (fun w' h=>⟨s',rfl,hn.chg h (by omega)⟩)
   ·intro f w3 hG hp;obtain⟨cs0,hbx0,hz0⟩:∃cs,Bx 64 w3 (w.heap.size+2) cs∧(PP.frZd (sgn (!b) (m - n)):PP w2.heap.size).p (.agg cs) w3:=endS hp 8 (by decide);clear hp;have hz1:=hz0.mono (show w.heap.size≤_ by omega);obtain⟨s',hv,hn⟩:=hz0
    cases hv
    go_wp2;refine ret_box 4 64 (w.heap.size+2) 64 _ _ (by kernel_rfl) rfl hbx0 Tryz.underlying64 rfl (by kernel_rfl) rfl ?_
    rw[show sgn b n+sgn (!b) m=sgn (!b) (m - n)by cases b<;>simp [sgn]<;>omega]
    exact⟨_,rfl,hz1,E.stepS hG (by simp)⟩
theorem zmul2_calls(v u:Value)(x y:Int)(w:World)(hv:CZ w v x)(hu:CZ w u y)(hsx:szT x≤68719476736)(hsy:szT y≤68719476736):
  Calls Tryz.prog 85 #[v,u] w fun e w'=>∃v',e= .returned v'∧FrZd w.heap.size w' v' (x*y)∧Ext w w':=by
 obtain⟨b,s,n,rfl,hs,rfl⟩:=hv.parts;obtain⟨c,t,m,rfl,ht,rfl⟩:=hu.parts;rw[szT_sgn]at hsx hsy;clear hv hu;have hsN:=hs.isN TK_gt (by rw[LIM_eq];omega);have htN:=ht.isN TK_gt (by rw[LIM_eq];omega)
 go_enter Tryz.func85,Tryz.ntmps85
 go_wp2_with fail;obtain⟨w1,hw1,e1,b1,b2,b3,s1⟩:=alloc3 w #[.bool b,s] #[.bool c,t] #[.bool false,.slice none 0 0] 64 64 64;rw[←hw1];clear hw1;refine wpP [⟨11,(w.heap.size+2),64,PP.frZd (sgn (b !=c) (n*m))⟩] [PP.val (.pointer (some ⟨w.heap.size,0,none⟩)),PP.val (.bool b),PP.val (.pointer (some ⟨(w.heap.size+1),0,none⟩)),PP.val (.bool c),PP.val (.bool (b !=c)),PP.val (.pointer (some ⟨w.heap.size,1,none⟩)),PP.val (s),PP.val (.pointer (some ⟨(w.heap.size+1),1,none⟩)),PP.val (t),PP.frN 3 .i64 TK (n*m),PP.frZd (sgn (b !=c) (n*m)),PP.any] [] [11,10,9,8,7,6,5,4,3,2,1,0] ?_ ?_ ?_ ?_ ?_
 ·intro x hx;simp only[List.mem_singleton]at hx;subst hx;exact⟨by show(w.heap.size+2)<w1.heap.size;omega,rfl⟩
 ·intro x hx;simp only[List.mem_singleton]at hx;subst hx;rfl
 ·intro x hx y hy h;simp only[List.mem_singleton]at hx hy;subst hx hy;exact absurd rfl h
 ·refine⟨?_,?_,?_,?_,?_,?_,?_,?_,?_,?_,?_,?_,trivial⟩
  ·intro f w2 hG hp hl;simp only[OpGoal];go_simp;exact⟨_,rfl,Ext.refl _,rfl⟩
  ·intro f w2 hG hp hl;have hE:Ext w1 w2:=hG;have q5:=tE hp 0 0 rfl rfl rfl;have hcell:=(b1.ext hE).cell 0;simp only[OpGoal];go_simp;exact⟨_,rfl,Ext.refl _,rfl⟩
  ·intro f w2 hG hp hl;simp only[OpGoal];go_simp;exact⟨_,rfl,Ext.refl _,rfl⟩
  ·intro f w2 hG hp hl;have hE:Ext w1 w2:=hG;have q7:=tE hp 0 2 rfl rfl rfl;have hcell:=(b2.ext hE).cell 0;simp only[OpGoal];go_simp;exact⟨_,rfl,Ext.refl _,rfl⟩
  ·intro f w2 hG hp hl;have q6:=tE hp 0 1 rfl rfl rfl;have q8:=tE hp 1 3 rfl rfl rfl;simp only[OpGoal];go_simp;exact⟨_,rfl,Ext.refl _,rfl⟩
  ·intro f w2 hG hp hl;simp only[OpGoal];go_simp;exact⟨_,rfl,Ext.refl _,rfl⟩
  ·intro f w2 hG hp hl;have hE:Ext w1 w2:=hG;have q10:=tE hp 0 5 rfl rfl rfl;have hcell:=(b1.ext hE).cell 1;simp only[OpGoal];go_simp;exact⟨_,rfl,Ext.refl _,rfl⟩
  ·intro f w2 hG hp hl;simp only[OpGoal];go_simp;exact⟨_,rfl,Ext.refl _,rfl⟩
  ·intro f w2 hG hp hl;have hE:Ext w1 w2:=hG;have q12:=tE hp 0 7 rfl rfl rfl;have hcell:=(b2.ext hE).cell 1;simp only[OpGoal];go_simp;exact⟨_,rfl,Ext.refl _,rfl⟩
  ·intro f w2 hG hp hl;have hE:Ext w1 w2:=hG;have hS:=hE.size;have q11:=tE hp 0 6 rfl rfl rfl;have q13:=tE hp 1 8 rfl rfl rfl;change OpGoal _ _ _ f w2 Ext _;refine oC #[f 6,f 8] Tryz.func66 rfl rfl ?_;rw[q11,q13];refine(rmul01_calls _ _ n m _ (hsN.ext (e1.trans hE)) (htN.ext (e1.trans hE))).mono ?_;rintro e w' ⟨v',rfl,h1,h2⟩;exact⟨v',rfl,h2,h1.mono hS⟩
  ·intro f w2 hG hp hl;have hE:Ext w1 w2:=hG;have hS:=hE.size;have q9:=tE hp 0 4 rfl rfl rfl;have q14:=tellV hp 1 9 rfl rfl (fun _=>hE);change OpGoal _ _ _ f w2 Ext _;refine oC #[f 4,f 9] Tryz.func68 rfl rfl ?_;rw[q9];refine(form_calls2 _ _ _ _ (q14.isC.isN TK_gt (Nat.le_trans (dg_len_mul TK_gt n m) (by unfold sz at hsx hsy;rw[LIM_eq];omega)))).mono ?_;rintro e w' ⟨v',rfl,h1,h2⟩;exact⟨v',rfl,h2,h1.mono hS⟩
  ·intro f w2 hG hp hl;have hE:Ext w1 w2:=hG;have hS:=hE.size;have q15:=tellV hp 0 10 rfl rfl (fun _=>hE);intro hg0;change OpGoal _ _ _ f w2 (Chg _) _;obtain⟨s',hv,hn⟩:=q15;exact og_store (P:=Tryz.prog) _ _ _ (w.heap.size+2) _ _ _ (PP.frZd _:PP _).p rfl rfl rfl hv (show Bx 64 w2 _ _ from hg0.trans b3) (by kernel_rfl) rfl (all2 rfl hn.oneCell) (fun w' h=>⟨s',rfl,hn.chg h (by omega)⟩)
 ·intro f w2 hG hp;obtain⟨cs0,hbx0,hz0⟩:∃cs,Bx 64 w2 (w.heap.size+2) cs∧(PP.frZd (sgn (b !=c) (n*m)):PP w1.heap.size).p (.agg cs) w2:=endS hp 11 (by decide);clear hp;have hz1:=hz0.mono (show w.heap.size≤_ by omega);obtain⟨s',hv,hn⟩:=hz0
  cases hv
  go_wp2;refine ret_box 4 64 (w.heap.size+2) 64 _ _ (by kernel_rfl) rfl hbx0 Tryz.underlying64 rfl (by kernel_rfl) rfl ?_;rw[←sgn_mul];exact⟨_,rfl,hz1,e1.stepS hG (by simp)⟩
theorem zsub2_calls(v u:Value)(x y:Int)(w:World)(hv:CZ w v x)(hu:CZ w u y)(hsx:szT x≤68719476736)(hsy:szT y≤68719476736):
  Calls Tryz.prog 84 #[v,u] w fun e w'=>∃v',e= .returned v'∧FrZd w.heap.size w' v' (x - y)∧Ext w w':=by
 have hV:=Lib.hid hv;have hU:=Lib.hid hu;obtain⟨b,s,n,rfl, -, -⟩:=hv.parts;obtain⟨c,t,m,rfl, -, -⟩:=hu.parts;clear hv hu
 go_enter Tryz.func84,Tryz.ntmps84
 go_wp2_with fail;obtain⟨w1,hw1,e1,b1,b2,b3,s1⟩:=alloc3 w #[.bool b,s] #[.bool c,t] #[.bool false,.slice none 0 0] 64 64 64;rw[←hw1];clear hw1;refine wpP [⟨4,(w.heap.size+2),64,PP.frZd (x+ -y)⟩] [PP.val (.agg #[.bool b,s]),PP.val (.agg #[.bool c,t]),PP.frZd (-y),PP.frZd (x+ -y),PP.any] [] [4,3,2,1,0] ?_ ?_ ?_ ?_ ?_
 ·intro x hx;simp only[List.mem_singleton]at hx;subst hx;exact⟨by show(w.heap.size+2)<w1.heap.size;omega,rfl⟩
 ·intro x hx;simp only[List.mem_singleton]at hx;subst hx;rfl
 ·intro x hx y hy h;simp only[List.mem_singleton]at hx hy;subst hx hy;exact absurd rfl h
 ·refine⟨?_,?_,?_,?_,?_,trivial⟩
  ·intro f w2 hG hp hl;have hE:Ext w1 w2:=hG;change OpGoal _ _ _ f w2 Ext _;exact og_load (P:=Tryz.prog) _ _ w.heap.size _ _ _ rfl rfl rfl (b1.ext hE) Tryz.underlying64 rfl (by kernel_rfl) rfl
  ·intro f w2 hG hp hl;have hE:Ext w1 w2:=hG;change OpGoal _ _ _ f w2 Ext _;exact og_load (P:=Tryz.prog) _ _ (w.heap.size+1) _ _ _ rfl rfl rfl (b2.ext hE) Tryz.underlying64 rfl (by kernel_rfl) rfl
  ·intro f w2 hG hp hl;have hE:Ext w1 w2:=hG;have hS:=hE.size;have q6:=tE hp 0 1 rfl rfl rfl;change OpGoal _ _ _ f w2 Ext _;refine oC #[f 1] Tryz.func108 rfl rfl ?_;rw[q6];refine(zneg2_calls _ y _ (hU.out.ext (e1.trans hE)) hsy).mono ?_;rintro e w' ⟨v',rfl,h1,h2⟩;exact⟨v',rfl,h2,h1.mono hS⟩
  ·intro f w2 hG hp hl;have hE:Ext w1 w2:=hG;have hS:=hE.size;have q5:=tE hp 0 0 rfl rfl rfl;have q7:=tellV hp 1 2 rfl rfl (fun _=>hE);change OpGoal _ _ _ f w2 Ext _;refine oC #[f 0,f 2] Tryz.func107 rfl rfl ?_;rw[q5];refine(zadd2_calls _ _ x (-y) _ (hV.out.ext (e1.trans hE)) q7.cz hsx (by rw[szT_neg];exact hsy)).mono ?_;rintro e w' ⟨v',rfl,h1,h2⟩;exact⟨v',rfl,h2,h1.mono hS⟩
  ·intro f w2 hG hp hl;have hE:Ext w1 w2:=hG;have hS:=hE.size;have q8:=tellV hp 0 3 rfl rfl (fun _=>hE);intro hg0;change OpGoal _ _ _ f w2 (Chg _) _;obtain⟨s',hv,hn⟩:=q8;exact og_store (P:=Tryz.prog) _ _ _ (w.heap.size+2) _ _ _ (PP.frZd _:PP _).p rfl rfl rfl hv (show Bx 64 w2 _ _ from hg0.trans b3) (by kernel_rfl) rfl (all2 rfl hn.oneCell) (fun w' h=>⟨s',rfl,hn.chg h (by omega)⟩)
 ·intro f w2 hG hp;obtain⟨cs0,hbx0,hz0⟩:∃cs,Bx 64 w2 (w.heap.size+2) cs∧(PP.frZd (x+ -y):PP w1.heap.size).p (.agg cs) w2:=endS hp 4 (by decide);clear hp;have hz1:=hz0.mono (show w.heap.size≤_ by omega);obtain⟨s',hv,hn⟩:=hz0
  cases hv
  go_wp2;refine ret_box 4 64 (w.heap.size+2) 64 _ _ (by kernel_rfl) rfl hbx0 Tryz.underlying64 rfl (by kernel_rfl) rfl ?_;rw[Int.sub_eq_add_neg];exact⟨_,rfl,hz1,e1.stepS hG (by simp)⟩
theorem zcmp2_calls(v u:Value)(x y:Int)(w:World)(hv:CZ w v x)(hu:CZ w u y)(hsx:szT x≤68719476736)(hsy:szT y≤68719476736):
  Calls Tryz.prog 52 #[v,u] w fun e w'=>e= .returned (.int .i64 (x - y).sign)∧Ext w w':=by
 have hV:=Lib.hid hv;have hU:=Lib.hid hu;obtain⟨b,s,n,rfl, -, -⟩:=hv.parts;obtain⟨c,t,m,rfl, -, -⟩:=hu.parts;clear hv hu
 go_enter Tryz.func52,Tryz.ntmps52
 obtain⟨w1,hw1,e1,b1,b2,s1⟩:=alloc2 w #[.bool b,s] #[.bool c,t] 64 64;have hc0:=b1.cell 0;have hc1:=b1.cell 1;have hd0:=b2.cell 0;have hd1:=b2.cell 1;rw[hw1]at hc0 hc1 hd0 hd1;go_wp2_with fail;rw[←hw1];clear hc0 hc1 hd0 hd1;refine(zsub2_calls _ _ x y _ (hV.out.ext e1) (hU.out.ext e1) hsx hsy).mono ?_;rintro e w2 ⟨v2,rfl,h2,e2⟩;go_wp2_with fail;refine(zsign2_calls _ _ _ h2.cz).mono ?_;rintro e w3 ⟨rfl,e3⟩;go_wp2;go_ret;exact⟨rfl,(e1.trans e2).trans e3⟩
def RawI(w:World)(v:Value)(b:Bool)(xs:List Nat):Prop:=∃s,v= .agg #[.bool b,s]∧IsL .u64 w s xs
theorem RawI.ext{w w':World}{v:Value}{b:Bool}{xs:List Nat}(h:RawI w v b xs)(he:Ext w w'):RawI w' v b xs:=by
 obtain⟨s,h1,h2⟩:=h;exact⟨s,h1,h2.ext he⟩
theorem zsame2_calls(v u:Value)(b c:Bool)(xs ys:List Nat)(w:World)(hv:RawI w v b xs)(hu:RawI w u c ys):
  Calls Tryz.prog 35 #[v,u] w fun e w'=>e= .returned (.bool (decide (b=c∧xs=ys)))∧Ext w w':=by
 obtain⟨s,rfl,hs⟩:=hv;obtain⟨t,rfl,ht⟩:=hu
 go_enter Tryz.func35,Tryz.ntmps35
 obtain⟨w1,hw1,e1,b1,b2,s1⟩:=alloc2 w #[.bool b,s] #[.bool c,t] 34 34;have hc0:=b1.cell 0;have hc1:=b1.cell 1;have hd0:=b2.cell 0;have hd1:=b2.cell 1;rw[hw1]at hc0 hc1 hd0 hd1
 by_cases hbc:b=c
 ·subst hbc
  have hdec:(b==b)=true:=by cases b<;>rfl
  go_wp2_with fail;rw[←hw1];clear hc0 hc1 hd0 hd1;refine(rsame_calls _ _ xs ys _ (hs.ext e1) (ht.ext e1)).mono ?_;rintro e w2 ⟨rfl,e2⟩;go_wp2;go_ret;exact⟨by simp,e1.trans e2⟩
 ·have hdec:(b==c)=false:=by cases b<;>cases c<;>simp_all
  go_wp2;go_ret;exact⟨by simp[hbc],((Ext.refl w).alloc _).alloc _⟩
theorem zcopy2_calls(v:Value)(b:Bool)(xs:List Nat)(w:World)(hv:RawI w v b xs)(hlen:xs.length≤8796093022208):
  Calls Tryz.prog 22 #[v] w fun e w'=>∃v',e= .returned v'∧FrI w.heap.size w' v' b xs∧Ext w w':=by
 obtain⟨s,rfl,hs⟩:=hv
 go_enter Tryz.func22,Tryz.ntmps22
 go_wp2_with fail;obtain⟨w1,hw1,e1,b1,b2,s1⟩:=alloc2 w #[.bool b,s] #[.bool false,.slice none 0 0] 34 34;rw[←hw1];clear hw1;refine wpP [⟨6,(w.heap.size+1),34,PP.frI b xs⟩] [PP.val (.pointer (some ⟨w.heap.size,0,none⟩)),PP.val (.bool b),PP.val (.pointer (some ⟨w.heap.size,1,none⟩)),PP.val (s),PP.frLw xs,PP.frI b xs,PP.any] [] [6,5,4,3,2,1,0] ?_ ?_ ?_ ?_ ?_
 ·intro x hx;simp only[List.mem_singleton]at hx;subst hx;exact⟨by show(w.heap.size+1)<w1.heap.size;omega,rfl⟩
 ·intro x hx;simp only[List.mem_singleton]at hx;subst hx;rfl
 ·intro x hx y hy h;simp only[List.mem_singleton]at hx hy;subst hx hy;exact absurd rfl h
 ·refine⟨?_,?_,?_,?_,?_,?_,?_,trivial⟩
  ·intro f w2 hG hp hl;simp only[OpGoal];go_simp;exact⟨_,rfl,Ext.refl _,rfl⟩
  ·intro f w2 hG hp hl;have hE:Ext w1 w2:=hG;have q3:=tE hp 0 0 rfl rfl rfl;have hcell:=(b1.ext hE).cell 0;simp only[OpGoal];go_simp;exact⟨_,rfl,Ext.refl _,rfl⟩
  ·intro f w2 hG hp hl;simp only[OpGoal];go_simp;exact⟨_,rfl,Ext.refl _,rfl⟩
  ·intro f w2 hG hp hl;have hE:Ext w1 w2:=hG;have q5:=tE hp 0 2 rfl rfl rfl;have hcell:=(b1.ext hE).cell 1;simp only[OpGoal];go_simp;exact⟨_,rfl,Ext.refl _,rfl⟩
  ·intro f w2 hG hp hl;have hE:Ext w1 w2:=hG;have hS:=hE.size;have q6:=tE hp 0 3 rfl rfl rfl;change OpGoal _ _ _ f w2 Ext _;refine oC #[f 3] Tryz.func23 rfl rfl ?_;rw[q6];refine(rcopy_calls _ xs _ (hs.ext (e1.trans hE)) hlen).mono ?_;rintro e w' ⟨v',rfl,h1,h2⟩;exact⟨v',rfl,h2,h1.mono hS⟩
  ·intro f w2 hG hp hl;have hE:Ext w1 w2:=hG;have q4:=tE hp 0 1 rfl rfl rfl;have q7:=tellV hp 1 4 rfl rfl (fun _=>hE);obtain⟨ad,cap,hv⟩:=FrL.slice q7;simp only[OpGoal];go_simp;exact⟨_,rfl,Ext.refl _,_,rfl,hv▸q7⟩
  ·intro f w2 hG hp hl;have hE:Ext w1 w2:=hG;have hS:=hE.size;have q8:=tellV hp 0 5 rfl rfl (fun _=>hE);intro hg0;change OpGoal _ _ _ f w2 (Chg _) _;obtain⟨s',hv,hn⟩:=q8;obtain⟨ad,cap,hv2⟩:=FrL.slice hn;exact og_store (P:=Tryz.prog) _ _ _ (w.heap.size+1) _ _ _ (PP.frI _ _:PP _).p rfl rfl rfl hv (show Bx 34 w2 _ _ from hg0.trans b2) (by kernel_rfl) rfl (all2 rfl (by rw[hv2];rfl)) (fun w' h=>⟨s',rfl,hn.chg h (by omega)⟩)
 ·intro f w2 hG hp;obtain⟨cs0,hbx0,hz0⟩:∃cs,Bx 34 w2 (w.heap.size+1) cs∧(PP.frI b xs:PP w1.heap.size).p (.agg cs) w2:=endS hp 6 (by decide);clear hp;obtain⟨s',hv,hn⟩:=hz0
  cases hv
  go_wp2;refine ret_box 2 34 (w.heap.size+1) 34 _ _ (by kernel_rfl) rfl hbx0 Tryz.underlying34 rfl (by kernel_rfl) rfl ?_;exact⟨_,rfl,⟨_,rfl,FrL.mono hn (by omega)⟩,e1.stepS hG (by simp)⟩
end Go.Proofs.YthoibjnkhkjnjaaGreat
