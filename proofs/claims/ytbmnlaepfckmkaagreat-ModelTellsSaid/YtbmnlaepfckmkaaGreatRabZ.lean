/-
 rat's functions, walked (II): making, forms, signs, comparison, sums, differences, products, quotients.
-/
import Derived.Test.YtbmnlaepfckmkaaGreatRaaZ
namespace Go.Proofs.YtbmnlaepfckmkaaGreat
set_option maxRecDepth 100000
set_option maxHeartbeats 1000000
open Go.RowKit
set_option linter.unusedVariables false
set_option linter.unusedSimpArgs false
theorem mkRat_divInt(b c:Bool)(n m:Nat)(hm:0<m):mkRat (sgn (b !=c) n) m=Rat.divInt (sgn b n) (sgn c m):=by
 cases c
 ·have e:sgn false m=(m:Int):=rfl
  rw[e,Rat.divInt_ofNat]
  congr 1
  cases b<;>rfl
 ·have e:sgn true m= -(m:Int):=rfl
  rw[e,Rat.divInt_neg',Rat.divInt_ofNat]
  congr 1
  cases b<;>simp [sgn]
theorem rmake_calls(v u:Value)(x y:Int)(w:World)(hv:IsZ w v x)(hu:IsZ w u y)(hy:y≠0)(hsx:szZ x≤68719476736)(hsy:szZ y≤68719476736):
  Calls Tryz.prog 178 #[v,u] w fun e w'=>∃v',e= .returned (.tuple #[v',.int .i64 0])∧FrQ w.heap.size w' v' (Rat.divInt x y)∧Ext w w':=by
 have hU:=Lib.hid hu;obtain⟨b,s,n,rfl,hs,hx⟩:=hv;obtain⟨c,t,m,rfl,ht,hy2⟩:=hu
 have hsn:sz W n≤68719476736:=by rw[hx]at hsx;unfold szZ at hsx;rwa [sgn_natAbs]at hsx
 have hsm:sz W m≤68719476736:=by rw[hy2]at hsy;unfold szZ at hsy;rwa [sgn_natAbs]at hsy
 have hm:0<m:=by
  rcases Nat.eq_zero_or_pos m with h |h
  ·subst h;exact absurd (by rw[hy2];cases c<;>rfl) hy
  ·exact h
 have hys:¬y.sign=0:=by have:=sign_cases y;omega
 have Hx:=Lib.hid hx;have Hy:=Lib.hid hy2;clear hx hy2
 go_enter Tryz.func178,Tryz.ntmps178
 go_wp2_with fail;obtain⟨w1,hw1,e1,b1,b2,b3,s1⟩:=alloc3 w #[.bool b,s] #[.bool c,t] #[.bool false,.slice none 0 0,.slice none 0 0] 39 39 41;have hc0:=b2.cell 0;have hc1:=b2.cell 1;rw[←hw1];clear hw1;refine(zsign_calls _ y _ (hU.out.ext e1)).mono ?_;rintro e w2 ⟨rfl,e2⟩;have E:=e1.trans e2;have B1:=b1.ext e2;have B2:=b2.ext e2;have B3:=b3.ext e2;have es:=e2.size;clear hc0 hc1;go_wp2_with fail;refine wpP [⟨11,(w.heap.size+2),41,PP.frQ (mkRat (sgn (b !=c) n) m)⟩] [PP.val (.pointer (some ⟨w.heap.size,0,none⟩)),PP.val (.bool b),PP.val (.pointer (some ⟨(w.heap.size+1),0,none⟩)),PP.val (.bool c),PP.val (.bool (b !=c)),PP.val (.pointer (some ⟨w.heap.size,1,none⟩)),PP.val (s),PP.frZ (sgn (b !=c) n),PP.val (.pointer (some ⟨(w.heap.size+1),1,none⟩)),PP.val (t),PP.frQ (mkRat (sgn (b !=c) n) m),PP.any,PP.val (.int .i64 0)] [] [11,10,9,8,7,6,5,4,3,2,1,0] ?_ ?_ ?_ ?_ ?_
 ·intro x hx;simp only[List.mem_singleton]at hx;subst hx;exact⟨by show(w.heap.size+2)<w2.heap.size;omega,rfl⟩
 ·intro x hx;simp only[List.mem_singleton]at hx;subst hx;rfl
 ·intro x hx y hy h;simp only[List.mem_singleton]at hx hy;subst hx hy;exact absurd rfl h
 ·refine⟨?_,?_,?_,?_,?_,?_,?_,?_,?_,?_,?_,?_,?_,trivial⟩
  ·intro f w3 hG hp hl;simp only[OpGoal];go_simp;exact⟨_,rfl,Ext.refl _,rfl⟩
  ·intro f w3 hG hp hl;have hE:Ext w2 w3:=hG;have q10:=tE hp 0 0 rfl rfl rfl;have hcell:=(B1.ext hE).cell 0;simp only[OpGoal];go_simp;exact⟨_,rfl,Ext.refl _,rfl⟩
  ·intro f w3 hG hp hl;simp only[OpGoal];go_simp;exact⟨_,rfl,Ext.refl _,rfl⟩
  ·intro f w3 hG hp hl;have hE:Ext w2 w3:=hG;have q12:=tE hp 0 2 rfl rfl rfl;have hcell:=(B2.ext hE).cell 0;simp only[OpGoal];go_simp;exact⟨_,rfl,Ext.refl _,rfl⟩
  ·intro f w3 hG hp hl;have q11:=tE hp 0 1 rfl rfl rfl;have q13:=tE hp 1 3 rfl rfl rfl;simp only[OpGoal];go_simp;exact⟨_,rfl,Ext.refl _,rfl⟩
  ·intro f w3 hG hp hl;simp only[OpGoal];go_simp;exact⟨_,rfl,Ext.refl _,rfl⟩
  ·intro f w3 hG hp hl;have hE:Ext w2 w3:=hG;have q15:=tE hp 0 5 rfl rfl rfl;have hcell:=(B1.ext hE).cell 1;simp only[OpGoal];go_simp;exact⟨_,rfl,Ext.refl _,rfl⟩
  ·intro f w3 hG hp hl;have hE:Ext w2 w3:=hG;have hS:=hE.size;have q14:=tE hp 0 4 rfl rfl rfl;have q16:=tE hp 1 6 rfl rfl rfl;change OpGoal _ _ _ f w3 Ext _;refine oC #[f 4,f 6] Tryz.func185 rfl rfl ?_;rw[q14,q16];refine(make_calls _ _ _ _ (hs.ext (E.trans hE))).mono ?_;rintro e w' ⟨v',rfl,h1,h2⟩;exact⟨v',rfl,h2,h1.mono hS⟩
  ·intro f w3 hG hp hl;simp only[OpGoal];go_simp;exact⟨_,rfl,Ext.refl _,rfl⟩
  ·intro f w3 hG hp hl;have hE:Ext w2 w3:=hG;have q18:=tE hp 0 8 rfl rfl rfl;have hcell:=(B2.ext hE).cell 1;simp only[OpGoal];go_simp;exact⟨_,rfl,Ext.refl _,rfl⟩
  ·intro f w3 hG hp hl;have hE:Ext w2 w3:=hG;have hS:=hE.size;have q17:=tellV hp 0 7 rfl rfl (fun _=>hE);have q19:=tE hp 1 9 rfl rfl rfl;change OpGoal _ _ _ f w3 Ext _;refine oC #[f 7,f 9] Tryz.func175 rfl rfl ?_;rw[q19];refine(lowest_calls _ _ (sgn (b !=c) n) m _ (q17.isZ (by unfold szZ;rw[sgn_natAbs,LIM_eq];omega)) (ht.ext (E.trans hE)) hm (by unfold szZ;rw[sgn_natAbs];omega) hsm).mono ?_;rintro e w' ⟨v',rfl,h1,h2⟩;exact⟨v',rfl,h2,h1.mono hS⟩
  ·intro f w3 hG hp hl;have hE:Ext w2 w3:=hG;have hS:=hE.size;have q20:=tellV hp 0 10 rfl rfl (fun _=>hE);intro hg0;change OpGoal _ _ _ f w3 (Chg _) _;obtain⟨s',t',hv,hn,hm⟩:=q20;exact og_store (P:=Tryz.prog) _ _ _ (w.heap.size+2) _ _ _ (PP.frQ _:PP _).p rfl rfl rfl hv (show Bx 41 w3 _ _ from hg0.trans B3) (by kernel_rfl) rfl (all3 rfl hn.oneCell hm.oneCell) (fun w' h=>⟨s',t',rfl,hn.chg h (by omega),hm.chg h (by omega)⟩)
  ·intro f w3 hG hp hl;have hS:w2.heap.size≤w3.heap.size:=hG.2.2.2.1;simp only[OpGoal];go_simp;exact⟨_,rfl,Ext.refl _,rfl⟩
 ·intro f w4 hG hp;obtain⟨cs0,hbx0,hz0⟩:∃cs,Bx 41 w4 (w.heap.size+2) cs∧(PP.frQ (mkRat (sgn (b !=c) n) m):PP w2.heap.size).p (.agg cs) w4:=endS hp 11 (by decide)
  have q5:f 12= .int .i64 0:=endV hp 12 (by decide) rfl (fun h=>by cases h)
  clear hp;have hz1:=hz0.mono (show w.heap.size≤_ by omega);obtain⟨s',t',hvv,hnn,hmm⟩:=hz0
  cases hvv
  go_wp2;refine ret_box2 4 5 41 (w.heap.size+2) 41 _ _ _ (by kernel_rfl) rfl q5 hbx0 Tryz.underlying41 rfl (by kernel_rfl) rfl ?_;rw[Hx.out,Hy.out,←mkRat_divInt b c n m hm];exact⟨_,rfl,hz1,E.stepS hG (by simp)⟩
theorem form_calls(v:Value)(x:Rat)(k:Nat)(w:World)(hv:IsR w v x k)(hk:k≤68719476736):
  Calls Tryz.prog 141 #[v] w fun e w'=>∃v',e= .returned v'∧FrQ w.heap.size w' v' x∧Ext w w':=by
 obtain⟨nx,dx,hqx,rfl,knx,kdx⟩:=hv;have hpx:=hqx.pos;have Qx:=Lib.hid hqx;obtain⟨bx,sx,tx,mx,d0x,rfl,hsx,hnx,htx,hdx⟩:=hqx;have Zx:=Lib.hid (show IsZ w (.agg #[.bool bx,sx]) nx from⟨_,_,_,rfl,hsx,hnx⟩);clear hnx hdx
 go_enter Tryz.func141,Tryz.ntmps141
 go_wp2_with fail;obtain⟨w1,hw1,e1,b1,b2,s1⟩:=alloc2 w #[.bool bx,sx,tx] #[.bool false,.slice none 0 0,.slice none 0 0] 41 41;rw[←hw1];clear hw1;refine wpP [⟨5,(w.heap.size+1),41,PP.frQ (mkRat nx dx)⟩] [PP.val (.pointer (some ⟨w.heap.size,0,none⟩)),PP.val (.agg #[.bool bx,sx]),PP.val (.agg #[.bool bx,sx,tx]),PP.isN .u64 W dx,PP.frQ (mkRat nx dx),PP.any] [] [5,4,3,2,1,0] ?_ ?_ ?_ ?_ ?_
 ·intro x hx;simp only[List.mem_singleton]at hx;subst hx;exact⟨by show(w.heap.size+1)<w1.heap.size;omega,rfl⟩
 ·intro x hx;simp only[List.mem_singleton]at hx;subst hx;rfl
 ·intro x hx y hy h;simp only[List.mem_singleton]at hx hy;subst hx hy;exact absurd rfl h
 ·refine⟨?_,?_,?_,?_,?_,?_,trivial⟩
  ·intro f w2 hG hp hl;simp only[OpGoal];go_simp;exact⟨_,rfl,Ext.refl _,rfl⟩
  ·intro f w2 hG hp hl;have hE:Ext w1 w2:=hG;have q3:=tE hp 0 0 rfl rfl rfl;have hbx:=b1.ext hE;have hcell0:=hbx.cell 0;have hcell1:=hbx.cell 1;have hcell2:=hbx.cell 2;simp only[OpGoal];go_simp;exact⟨_,rfl,Ext.refl _,rfl⟩
  ·intro f w2 hG hp hl;have hE:Ext w1 w2:=hG;change OpGoal _ _ _ f w2 Ext _;exact og_load (P:=Tryz.prog) _ _ w.heap.size _ _ _ rfl rfl rfl (b1.ext hE) Tryz.underlying41 rfl (by kernel_rfl) rfl
  ·intro f w2 hG hp hl;have hE:Ext w1 w2:=hG;have q5:=tE hp 0 2 rfl rfl rfl;change OpGoal _ _ _ f w2 Ext _;refine oC #[f 2] Tryz.func177 rfl rfl ?_;rw[q5];refine(under_calls _ nx dx _ (Qx.out.ext (e1.trans hE))).mono ?_;rintro e w' ⟨v',rfl,h1,h2⟩;exact⟨v',rfl,h2,h1⟩
  ·intro f w2 hG hp hl;have hE:Ext w1 w2:=hG;have hS:=hE.size;have q4:=tE hp 0 1 rfl rfl rfl;have q6:=tellV hp 1 3 rfl rfl (fun _=>hE);change OpGoal _ _ _ f w2 Ext _;refine oC #[f 1,f 3] Tryz.func175 rfl rfl ?_;rw[q4];refine(lowest_calls _ _ nx dx _ (Zx.out.ext (e1.trans hE)) q6 hpx (by omega) (by omega)).mono ?_;rintro e w' ⟨v',rfl,h1,h2⟩;exact⟨v',rfl,h2,h1.mono hS⟩
  ·intro f w2 hG hp hl;have hE:Ext w1 w2:=hG;have hS:=hE.size;have q7:=tellV hp 0 4 rfl rfl (fun _=>hE);intro hg0;change OpGoal _ _ _ f w2 (Chg _) _;obtain⟨s',t',hv,hn,hm⟩:=q7;exact og_store (P:=Tryz.prog) _ _ _ (w.heap.size+1) _ _ _ (PP.frQ _:PP _).p rfl rfl rfl hv (show Bx 41 w2 _ _ from hg0.trans b2) (by kernel_rfl) rfl (all3 rfl hn.oneCell hm.oneCell) (fun w' h=>⟨s',t',rfl,hn.chg h (by omega),hm.chg h (by omega)⟩)
 ·intro f w2 hG hp;obtain⟨cs0,hbx0,hz0⟩:∃cs,Bx 41 w2 (w.heap.size+1) cs∧(PP.frQ (mkRat nx dx):PP w1.heap.size).p (.agg cs) w2:=endS hp 5 (by decide);clear hp;have hz1:=hz0.mono (show w.heap.size≤_ by omega);obtain⟨s',t',hvv,hnn,hmm⟩:=hz0
  cases hvv
  go_wp2;refine ret_box 2 41 (w.heap.size+1) 41 _ _ (by kernel_rfl) rfl hbx0 Tryz.underlying41 rfl (by kernel_rfl) rfl ?_;exact⟨_,rfl,hz1,e1.stepS hG (by simp)⟩
theorem rneg_calls(v:Value)(x:Rat)(k:Nat)(w:World)(hv:IsR w v x k)(hk:k≤68719476736):
  Calls Tryz.prog 114 #[v] w fun e w'=>∃v',e= .returned v'∧FrQ w.heap.size w' v' (-x)∧Ext w w':=by
 obtain⟨nx,dx,hqx,rfl,knx,kdx⟩:=hv;have hpx:=hqx.pos;have Qx:=Lib.hid hqx;obtain⟨bx,sx,tx,mx,d0x,rfl,hsx,hnx,htx,hdx⟩:=hqx;have Zx:=Lib.hid (show IsZ w (.agg #[.bool bx,sx]) nx from⟨_,_,_,rfl,hsx,hnx⟩);clear hnx hdx
 go_enter Tryz.func114,Tryz.ntmps114
 go_wp2_with fail;obtain⟨w1,hw1,e1,b1,b2,s1⟩:=alloc2 w #[.bool bx,sx,tx] #[.bool false,.slice none 0 0,.slice none 0 0] 41 41;rw[←hw1];clear hw1;refine wpP [⟨6,(w.heap.size+1),41,PP.frQ (mkRat (-nx) dx)⟩] [PP.val (.pointer (some ⟨w.heap.size,0,none⟩)),PP.val (.agg #[.bool bx,sx]),PP.frZ (-nx),PP.val (.agg #[.bool bx,sx,tx]),PP.isN .u64 W dx,PP.frQ (mkRat (-nx) dx),PP.any] [] [6,5,4,3,2,1,0] ?_ ?_ ?_ ?_ ?_
 ·intro x hx;simp only[List.mem_singleton]at hx;subst hx;exact⟨by show(w.heap.size+1)<w1.heap.size;omega,rfl⟩
 ·intro x hx;simp only[List.mem_singleton]at hx;subst hx;rfl
 ·intro x hx y hy h;simp only[List.mem_singleton]at hx hy;subst hx hy;exact absurd rfl h
 ·refine⟨?_,?_,?_,?_,?_,?_,?_,trivial⟩
  ·intro f w2 hG hp hl;simp only[OpGoal];go_simp;exact⟨_,rfl,Ext.refl _,rfl⟩
  ·intro f w2 hG hp hl;have hE:Ext w1 w2:=hG;have q3:=tE hp 0 0 rfl rfl rfl;have hbx:=b1.ext hE;have hcell0:=hbx.cell 0;have hcell1:=hbx.cell 1;have hcell2:=hbx.cell 2;simp only[OpGoal];go_simp;exact⟨_,rfl,Ext.refl _,rfl⟩
  ·intro f w2 hG hp hl;have hE:Ext w1 w2:=hG;have hS:=hE.size;have q4:=tE hp 0 1 rfl rfl rfl;change OpGoal _ _ _ f w2 Ext _;refine oC #[f 1] Tryz.func176 rfl rfl ?_;rw[q4];refine(zneg_calls _ nx _ (Zx.out.ext (e1.trans hE))).mono ?_;rintro e w' ⟨v',rfl,h1,h2⟩;exact⟨v',rfl,h2,h1.mono hS⟩
  ·intro f w2 hG hp hl;have hE:Ext w1 w2:=hG;change OpGoal _ _ _ f w2 Ext _;exact og_load (P:=Tryz.prog) _ _ w.heap.size _ _ _ rfl rfl rfl (b1.ext hE) Tryz.underlying41 rfl (by kernel_rfl) rfl
  ·intro f w2 hG hp hl;have hE:Ext w1 w2:=hG;have q6:=tE hp 0 3 rfl rfl rfl;change OpGoal _ _ _ f w2 Ext _;refine oC #[f 3] Tryz.func177 rfl rfl ?_;rw[q6];refine(under_calls _ nx dx _ (Qx.out.ext (e1.trans hE))).mono ?_;rintro e w' ⟨v',rfl,h1,h2⟩;exact⟨v',rfl,h2,h1⟩
  ·intro f w2 hG hp hl;have hE:Ext w1 w2:=hG;have hS:=hE.size;have q5:=tellV hp 0 2 rfl rfl (fun _=>hE);have q7:=tellV hp 1 4 rfl rfl (fun _=>hE);change OpGoal _ _ _ f w2 Ext _;refine oC #[f 2,f 4] Tryz.func175 rfl rfl ?_;refine(lowest_calls _ _ (-nx) dx _ (q5.isZ (by rw[szZ_neg,LIM_eq];omega)) q7 hpx (by rw[szZ_neg];omega) (by omega)).mono ?_;rintro e w' ⟨v',rfl,h1,h2⟩;exact⟨v',rfl,h2,h1.mono hS⟩
  ·intro f w2 hG hp hl;have hE:Ext w1 w2:=hG;have hS:=hE.size;have q8:=tellV hp 0 5 rfl rfl (fun _=>hE);intro hg0;change OpGoal _ _ _ f w2 (Chg _) _;obtain⟨s',t',hv,hn,hm⟩:=q8;exact og_store (P:=Tryz.prog) _ _ _ (w.heap.size+1) _ _ _ (PP.frQ _:PP _).p rfl rfl rfl hv (show Bx 41 w2 _ _ from hg0.trans b2) (by kernel_rfl) rfl (all3 rfl hn.oneCell hm.oneCell) (fun w' h=>⟨s',t',rfl,hn.chg h (by omega),hm.chg h (by omega)⟩)
 ·intro f w2 hG hp;obtain⟨cs0,hbx0,hz0⟩:∃cs,Bx 41 w2 (w.heap.size+1) cs∧(PP.frQ (mkRat (-nx) dx):PP w1.heap.size).p (.agg cs) w2:=endS hp 6 (by decide);clear hp;have hz1:=hz0.mono (show w.heap.size≤_ by omega);obtain⟨s',t',hvv,hnn,hmm⟩:=hz0
  cases hvv
  go_wp2;refine ret_box 2 41 (w.heap.size+1) 41 _ _ (by kernel_rfl) rfl hbx0 Tryz.underlying41 rfl (by kernel_rfl) rfl ?_;rw[Rat.neg_mkRat];exact⟨_,rfl,hz1,e1.stepS hG (by simp)⟩
theorem rsign_calls(v:Value)(x:Rat)(k:Nat)(w:World)(hv:IsR w v x k):
  Calls Tryz.prog 113 #[v] w fun e w'=>e= .returned (.int .i64 x.num.sign)∧Ext w w':=by
 obtain⟨nx,dx,hqx,rfl,knx,kdx⟩:=hv;have hpx:=hqx.pos;have Qx:=Lib.hid hqx;obtain⟨bx,sx,tx,mx,d0x,rfl,hsx,hnx,htx,hdx⟩:=hqx;have Zx:=Lib.hid (show IsZ w (.agg #[.bool bx,sx]) nx from⟨_,_,_,rfl,hsx,hnx⟩);clear hnx hdx
 go_enter Tryz.func113,Tryz.ntmps113
 obtain⟨w1,hw1,e1,b1,s1⟩:=alloc1 w #[.bool bx,sx,tx] 41;have hc0:=b1.cell 0;have hc1:=b1.cell 1;have hc2:=b1.cell 2;rw[hw1]at hc0 hc1 hc2;go_wp2_with fail;rw[←hw1];refine(zsign_calls _ nx _ (Zx.out.ext e1)).mono ?_;rintro e w2 ⟨rfl,e2⟩;go_wp2;go_ret;exact⟨by rw[mkRat_sign nx dx hpx];rfl,e1.trans e2⟩
end Go.Proofs.YtbmnlaepfckmkaaGreat
