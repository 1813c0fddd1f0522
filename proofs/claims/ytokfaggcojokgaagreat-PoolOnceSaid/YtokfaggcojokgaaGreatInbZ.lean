/-
 zint: of a word, comparison, sums, differences.
-/
import Derived.Test.YtokfaggcojokgaaGreatInaZ
namespace Go.Proofs.YtokfaggcojokgaaGreat
set_option maxRecDepth 100000
set_option maxHeartbeats 1000000
open Go.RowKit
set_option linter.unusedVariables false
set_option linter.unusedSimpArgs false
theorem szZ_small{n:Nat}(h:n<W):sz W n≤1:=dg_len_le W_gt (by simpa using h)
theorem isN_one{k:IntKind}{B:Nat}(w:World)(c:Nat)(e:TypeId)(hc:c<B):IsN k B (w.alloc (.cells #[.int k (c:Int)] e)) (.slice (some ⟨w.heap.size,0,none⟩) 1 1) c:=
 ⟨[c],⟨_,1,rfl,Nat.le_refl _,by omega,Rd.new1 w k c e⟩,by rw[LIM_eq];simp,fun y hy=>(by simpa using hy:y=c)▸hc,by simp[val]⟩
theorem zof_calls(z:Int)(w:World)(h0: -9223372036854775808≤z)(h1:z≤9223372036854775807):
  Calls Tryz.prog 151 #[.int .i64 z] w fun e w'=>∃v',e= .returned v'∧FrZ w.heap.size w' v' z∧Ext w w':=by
 go_enter Tryz.func151,Tryz.ntmps151
 have h2:=W_eq
 rcases(show z<0∨0≤z by omega)with h |h
 ·have hn:(-(z+1)+1)=(z.natAbs:Int):=by omega
  have hlt:z.natAbs<W:=by omega
  have hz:sgn true z.natAbs=z:=by simp only[sgn,if_true];omega
  go_wp2_with fail;obtain⟨w1,hw1,e1,b1,s1⟩:=alloc1 w #[.bool false,.slice none 0 0] 32;rw[←hw1,←s1];refine(make_calls true _ z.natAbs _ (isN_one w1 z.natAbs 172 hlt)).mono ?_;rw[hz];rintro e w2 ⟨v',rfl,hz,hext⟩;have s2:=alloc_size w1 (.cells #[.int .u64 (z.natAbs:Int)] 172);have e2:=((Ext.refl w1).alloc (.cells #[.int .u64 (z.natAbs:Int)] 172)).trans hext;obtain⟨s',rfl,hn⟩:=hz;obtain⟨ad,cap,rfl⟩:=hn.slice;have Hn:=Lib.hid hn;clear hn;have hb:=b1.ext e2;have hc0:=hb.cell 0;have hc1:=hb.cell 1;have hf0:=hb.free 0;have hf1:=hb.free 1;go_wp2;refine ret_box 2 32 w.heap.size 32 _ _ (by kernel_rfl) rfl ((hb.set 0 _).set 1 _) Tryz.underlying32 rfl (by kernel_rfl) rfl ?_;exact⟨_,rfl,⟨_,(by first |rfl |simp_all),(Hn.out.chg (Chg.trans (Chg.setCell _ w.heap.size 0 _) (Chg.setCell _ w.heap.size 1 _)) (by omega)).mono (by omega)⟩,(e1.trans e2).step (Chg.trans (Chg.setCell _ w.heap.size 0 _) (Chg.setCell _ w.heap.size 1 _)) (by omega)⟩
 ·have hn:=Lib.hid (show z=(z.natAbs:Int)by omega)
  have hlt:z.natAbs<W:=by omega
  have hz:sgn false z.natAbs=z:=by simp only[sgn,if_false,Bool.false_eq_true];omega
  have hlt2:z<18446744073709551616:=by omega
  clear h2;go_wp2_with fail;rw[show (Value.int .u64 z)= .int .u64 (z.natAbs:Int)by rw[←hn.out]];obtain⟨w1,hw1,e1,b1,s1⟩:=alloc1 w #[.bool false,.slice none 0 0] 32;rw[←hw1,←s1];refine(make_calls false _ z.natAbs _ (isN_one w1 z.natAbs 172 hlt)).mono ?_;rw[hz];rintro e w2 ⟨v',rfl,hz,hext⟩;have s2:=alloc_size w1 (.cells #[.int .u64 (z.natAbs:Int)] 172);have e2:=((Ext.refl w1).alloc (.cells #[.int .u64 (z.natAbs:Int)] 172)).trans hext;obtain⟨s',rfl,hn⟩:=hz;obtain⟨ad,cap,rfl⟩:=hn.slice;have Hn:=Lib.hid hn;clear hn;have hb:=b1.ext e2;have hc0:=hb.cell 0;have hc1:=hb.cell 1;have hf0:=hb.free 0;have hf1:=hb.free 1;go_wp2;refine ret_box 2 32 w.heap.size 32 _ _ (by kernel_rfl) rfl ((hb.set 0 _).set 1 _) Tryz.underlying32 rfl (by kernel_rfl) rfl ?_;exact⟨_,rfl,⟨_,(by first |rfl |simp_all),(Hn.out.chg (Chg.trans (Chg.setCell _ w.heap.size 0 _) (Chg.setCell _ w.heap.size 1 _)) (by omega)).mono (by omega)⟩,(e1.trans e2).step (Chg.trans (Chg.setCell _ w.heap.size 0 _) (Chg.setCell _ w.heap.size 1 _)) (by omega)⟩
theorem sign_cases(x:Int):(x.sign= -1∧x<0)∨(x.sign=0∧x=0)∨(x.sign=1∧0<x):=by
 rcases(show x<0∨x=0∨0<x by omega)with h |h |h
 ·exact .inl ⟨Int.sign_eq_neg_one_of_neg h,h⟩
 ·exact .inr (.inl ⟨by rw[h];rfl,h⟩)
 ·exact .inr (.inr ⟨Int.sign_eq_one_of_pos h,h⟩)
theorem cmpN_sign(n m:Nat):cmpN n m=((n:Int) - m).sign:=by
 have:=sign_cases ((n:Int) - m)
 unfold cmpN
 split<;>(try split)<;>omega
theorem cmp_neg{b c:Bool}{n m:Nat}{x y:Int}(hx:x=sgn b n)(hy:y=sgn c m)(h:x.sign=y.sign)(h2:y<0):cmpN m n=(x - y).sign:=by
 have cx:=sign_cases x;have cy:=sign_cases y;have hb:=((sgn_lt b n).1 (by omega)).1;have hc:=((sgn_lt c m).1 (by omega)).1;subst hb hc;rw[cmpN_sign,hx,hy]
 congr 1
 simp only[sgn,if_true]
 omega
theorem cmp_pos{b c:Bool}{n m:Nat}{x y:Int}(hx:x=sgn b n)(hy:y=sgn c m)(h:x.sign=y.sign)(h2:0≤y):cmpN n m=(x - y).sign:=by
 have cx:=sign_cases x;have cy:=sign_cases y
 have hb:sgn b n=n:=by
  cases b
  ·rfl
  ·simp only[sgn,if_true]at*;omega
 have hc:sgn c m=m:=by
  cases c
  ·rfl
  ·simp only[sgn,if_true]at*;omega
 rw[cmpN_sign,hx,hy,hb,hc]
theorem zcmp_calls(v u:Value)(x y:Int)(w:World)(hv:IsZ w v x)(hu:IsZ w u y):
  Calls Tryz.prog 165 #[v,u] w fun e w'=>e= .returned (.int .i64 (x - y).sign)∧Ext w w':=by
 have hV:=Lib.hid hv;have hU:=Lib.hid hu;obtain⟨b,s,n,rfl,hs,hx⟩:=hv;obtain⟨c,t,m,rfl,ht,hy⟩:=hu
 go_enter Tryz.func165,Tryz.ntmps165
 go_wp2_with fail;obtain⟨w1,hw1,e1,b1,b2,s1⟩:=alloc2 w #[.bool b,s] #[.bool c,t] 32 32;rw[←hw1];clear hw1;refine wpQ [PP.val (.agg #[.bool b,s]),PP.val (.int .i64 x.sign),PP.val (.agg #[.bool c,t]),PP.val (.int .i64 y.sign),PP.val (.int .i64 x.sign),PP.val (.int .i64 y.sign)] [] [0,1,2,3,4,5] ?_ ?_
 ·refine⟨?_,?_,?_,?_,?_,?_,trivial⟩
  ·intro f w2 hG hp hl;have hE:Ext w1 w2:=hG;change OpGoal _ _ _ f w2 Ext _;exact og_load (P:=Tryz.prog) _ _ w.heap.size _ _ _ rfl rfl rfl (b1.ext hE) Tryz.underlying32 rfl (by kernel_rfl) rfl
  ·intro f w2 hG hp hl;have hE:Ext w1 w2:=hG;have q7:=tE hp 0 0 rfl rfl rfl;change OpGoal _ _ _ f w2 Ext _;refine oC #[f 0] Tryz.func152 rfl rfl ?_;rw[q7];refine(zsign_calls _ x _ (hV.out.ext (e1.trans hE))).mono ?_;rintro e w' ⟨rfl,h2⟩;exact⟨_,rfl,h2,rfl⟩
  ·intro f w2 hG hp hl;have hE:Ext w1 w2:=hG;change OpGoal _ _ _ f w2 Ext _;exact og_load (P:=Tryz.prog) _ _ (w.heap.size+1) _ _ _ rfl rfl rfl (b2.ext hE) Tryz.underlying32 rfl (by kernel_rfl) rfl
  ·intro f w2 hG hp hl;have hE:Ext w1 w2:=hG;have q9:=tE hp 0 2 rfl rfl rfl;change OpGoal _ _ _ f w2 Ext _;refine oC #[f 2] Tryz.func152 rfl rfl ?_;rw[q9];refine(zsign_calls _ y _ (hU.out.ext (e1.trans hE))).mono ?_;rintro e w' ⟨rfl,h2⟩;exact⟨_,rfl,h2,rfl⟩
  ·intro f w2 hG hp hl;have hE:Ext w1 w2:=hG;have q8:=tellV hp 0 1 rfl rfl (fun _=>hE);exact⟨_,rfl,Ext.refl _,q8⟩
  ·intro f w2 hG hp hl;have hE:Ext w1 w2:=hG;have q10:=tellV hp 0 3 rfl rfl (fun _=>hE);exact⟨_,rfl,Ext.refl _,q10⟩
 ·intro f w2 hG hp;have hE:Ext w1 w2:=ChgS.nil hG
  have q5:f 4= .int .i64 x.sign:=endV hp 4 (by decide) rfl (fun h=>by cases h)
  have q6:f 5= .int .i64 y.sign:=endV hp 5 (by decide) rfl (fun h=>by cases h)
  clear hp;have hcx:=(b1.ext hE).cell 1;have hcy:=(b2.ext hE).cell 1;have Hx:=Lib.hid hx;have Hy:=Lib.hid hy;have cx:=Lib.hid (sign_cases x);have cy:=Lib.hid (sign_cases y);have cz:=Lib.hid (sign_cases (x - y));clear hx hy;go_wp2_with fail
  ·refine(cmp_calls _ _ _ _ _ (ht.ext (e1.trans hE)) (hs.ext (e1.trans hE))).mono ?_;rintro e w3 ⟨rfl,hext⟩;go_wp2;go_ret;exact⟨ret_int (cmp_neg Hx.out Hy.out ‹_› ‹_›),(e1.trans hE).trans hext⟩
  ·refine(cmp_calls _ _ _ _ _ (hs.ext (e1.trans hE)) (ht.ext (e1.trans hE))).mono ?_;rintro e w3 ⟨rfl,hext⟩;go_wp2;go_ret;exact⟨ret_int (cmp_pos Hx.out Hy.out ‹_› ‹_›),(e1.trans hE).trans hext⟩
  ·go_ret;have cx:=cx.out;have cy:=cy.out;have cz:=cz.out
   rename_i hlt
   have:=hlt.2
   exact⟨ret_int (by omega),e1.trans hE⟩
  ·go_ret;have cx:=cx.out;have cy:=cy.out;have cz:=cz.out
   rename_i h1 h2 h3
   have h4:y.sign≤x.sign:=by rcases h2 with h |h;(rw[h3]at h;cases h);exact h
   exact⟨ret_int (by omega),e1.trans hE⟩
theorem zadd_calls(v u:Value)(x y:Int)(w:World)(hv:IsZ w v x)(hu:IsZ w u y)(hsx:szZ x≤68719476736)(hsy:szZ y≤68719476736):
  Calls Tryz.prog 154 #[v,u] w fun e w'=>∃v',e= .returned v'∧FrZ w.heap.size w' v' (x+y)∧Ext w w':=by
 obtain⟨b,s,n,rfl,hs,rfl⟩:=hv;obtain⟨c,t,m,rfl,ht,rfl⟩:=hu;unfold szZ at hsx hsy;rw[sgn_natAbs]at hsx hsy
 go_enter Tryz.func154,Tryz.ntmps154
 by_cases hbc:b=c
 ·subst hbc;go_wp2_with fail;obtain⟨w1,hw1,e1,b1,b2,b3,s1⟩:=alloc3 w #[.bool b,s] #[.bool b,t] #[.bool false,.slice none 0 0] 32 32 32;rw[←hw1];clear hw1;refine wpP [⟨8,(w.heap.size+2),32,PP.frZ (sgn b (n+m))⟩] [PP.val (.pointer (some ⟨w.heap.size,0,none⟩)),PP.val (.bool b),PP.val (.pointer (some ⟨w.heap.size,1,none⟩)),PP.val (s),PP.val (.pointer (some ⟨(w.heap.size+1),1,none⟩)),PP.val (t),PP.frN 172 .u64 W (n+m),PP.frZ (sgn b (n+m)),PP.any] [] [8,7,6,5,4,3,2,1,0] ?_ ?_ ?_ ?_ ?_
  ·intro x hx;simp only[List.mem_singleton]at hx;subst hx;exact⟨by show(w.heap.size+2)<w1.heap.size;omega,rfl⟩
  ·intro x hx;simp only[List.mem_singleton]at hx;subst hx;rfl
  ·intro x hx y hy h;simp only[List.mem_singleton]at hx hy;subst hx hy;exact absurd rfl h
  ·refine⟨?_,?_,?_,?_,?_,?_,?_,?_,?_,trivial⟩
   ·intro f w2 hG hp hl;simp only[OpGoal];go_simp;exact⟨_,rfl,Ext.refl _,rfl⟩
   ·intro f w2 hG hp hl;have hE:Ext w1 w2:=hG;have q14:=tE hp 0 0 rfl rfl rfl;have hcell:=(b1.ext hE).cell 0;simp only[OpGoal];go_simp;exact⟨_,rfl,Ext.refl _,rfl⟩
   ·intro f w2 hG hp hl;simp only[OpGoal];go_simp;exact⟨_,rfl,Ext.refl _,rfl⟩
   ·intro f w2 hG hp hl;have hE:Ext w1 w2:=hG;have q16:=tE hp 0 2 rfl rfl rfl;have hcell:=(b1.ext hE).cell 1;simp only[OpGoal];go_simp;exact⟨_,rfl,Ext.refl _,rfl⟩
   ·intro f w2 hG hp hl;simp only[OpGoal];go_simp;exact⟨_,rfl,Ext.refl _,rfl⟩
   ·intro f w2 hG hp hl;have hE:Ext w1 w2:=hG;have q18:=tE hp 0 4 rfl rfl rfl;have hcell:=(b2.ext hE).cell 1;simp only[OpGoal];go_simp;exact⟨_,rfl,Ext.refl _,rfl⟩
   ·intro f w2 hG hp hl;have hE:Ext w1 w2:=hG;have hS:=hE.size;have q17:=tE hp 0 3 rfl rfl rfl;have q19:=tE hp 1 5 rfl rfl rfl;change OpGoal _ _ _ f w2 Ext _;refine oC #[f 3,f 5] Tryz.func192 rfl rfl ?_;rw[q17,q19];refine(add_calls _ _ n m _ (hs.ext (e1.trans hE)) (ht.ext (e1.trans hE))).mono ?_;rintro e w' ⟨v',rfl,h1,h2⟩;exact⟨v',rfl,h2,h1.mono hS⟩
   ·intro f w2 hG hp hl;have hE:Ext w1 w2:=hG;have hS:=hE.size;have q15:=tE hp 0 1 rfl rfl rfl;have q20:=tellV hp 1 6 rfl rfl (fun _=>hE);change OpGoal _ _ _ f w2 Ext _;refine oC #[f 1,f 6] Tryz.func167 rfl rfl ?_;rw[q15];refine(make_calls _ _ _ _ (q20.isC.isN W_gt (Nat.le_trans (sz_add n m) (by rw[LIM_eq];omega)))).mono ?_;rintro e w' ⟨v',rfl,h1,h2⟩;exact⟨v',rfl,h2,h1.mono hS⟩
   ·intro f w2 hG hp hl;have hE:Ext w1 w2:=hG;have hS:=hE.size;have q21:=tellV hp 0 7 rfl rfl (fun _=>hE);intro hg0;change OpGoal _ _ _ f w2 (Chg _) _;obtain⟨s',hv,hn⟩:=q21;exact og_store (P:=Tryz.prog) _ _ _ (w.heap.size+2) _ _ _ (PP.frZ _:PP _).p rfl rfl rfl hv (show Bx 32 w2 _ _ from hg0.trans b3) (by kernel_rfl) rfl (all2 rfl hn.oneCell) (fun w' h=>⟨s',rfl,hn.chg h (by omega)⟩)
  ·intro f w2 hG hp;obtain⟨cs0,hbx0,hz0⟩:∃cs,Bx 32 w2 (w.heap.size+2) cs∧(PP.frZ (sgn b (n+m)):PP w1.heap.size).p (.agg cs) w2:=endS hp 8 (by decide);clear hp;have hz1:=hz0.mono (show w.heap.size≤_ by omega);obtain⟨s',hv,hn⟩:=hz0
   cases hv
   go_wp2;refine ret_box 4 32 (w.heap.size+2) 32 _ _ (by kernel_rfl) rfl hbx0 Tryz.underlying32 rfl (by kernel_rfl) rfl ?_
   rw[show sgn b n+sgn b m=sgn b (n+m)by cases b<;>simp [sgn]<;>omega]
   exact⟨_,rfl,hz1,e1.stepS hG (by simp)⟩
 ·have hc:c=!b:=by cases b<;>cases c<;>simp_all
  have hdec:(b==!b)=false:=by cases b<;>rfl
  subst hc
  rcases(show m≤n∨n<m by omega)with hle |hlt
  ·go_wp2_with fail;obtain⟨w1,hw1,e1,b1,b2,b3,s1⟩:=alloc3 w #[.bool b,s] #[.bool !b,t] #[.bool false,.slice none 0 0] 32 32 32;rw[←hw1];clear hw1;refine(sub_yes _ _ n m _ (hs.ext e1) (ht.ext e1) hle).mono ?_;rintro e w2 ⟨vd,rfl,hd,hext⟩;have hcx:=(b1.ext hext).cell 0;go_wp2_with fail;refine(make_calls b vd (n - m) _ (hd.isC.isN W_gt (Nat.le_trans (sz_mono (show n - m≤n by omega)) (by rw[LIM_eq];omega)))).mono ?_;rintro e w3 ⟨v',rfl,hz,hext2⟩;have es:=hext.size;obtain⟨s',rfl,hn⟩:=hz;obtain⟨ad,cap,rfl⟩:=hn.slice;have Hn:=Lib.hid hn;clear hn;have hb:=b3.ext (hext.trans hext2);have hc0:=hb.cell 0;have hc1:=hb.cell 1;have hf0:=hb.free 0;have hf1:=hb.free 1;go_wp2;refine ret_box 4 32 (w.heap.size+2) 32 _ _ (by kernel_rfl) rfl ((hb.set 0 _).set 1 _) Tryz.underlying32 rfl (by kernel_rfl) rfl ?_
   rw[show sgn b n+sgn (!b) m=sgn b (n - m)by cases b<;>simp [sgn]<;>omega]
   exact⟨_,rfl,⟨_,(by first |rfl |simp_all),(Hn.out.chg (Chg.trans (Chg.setCell _ (w.heap.size+2) 0 _) (Chg.setCell _ (w.heap.size+2) 1 _)) (by omega)).mono (by omega)⟩,((e1.trans hext).trans hext2).step (Chg.trans (Chg.setCell _ (w.heap.size+2) 0 _) (Chg.setCell _ (w.heap.size+2) 1 _)) (by omega)⟩
  ·go_wp2_with fail;obtain⟨w1,hw1,e1,b1,b2,b3,s1⟩:=alloc3 w #[.bool b,s] #[.bool !b,t] #[.bool false,.slice none 0 0] 32 32 32;rw[←hw1];clear hw1;refine(sub_no _ _ n m _ (hs.ext e1) (ht.ext e1) hlt).mono ?_;rintro e w2 ⟨rfl,hext⟩;have hcx:=(b1.ext hext).cell 1;have hcy:=(b2.ext hext).cell 1;go_wp2_with fail;refine(sub_yes _ _ m n _ (ht.ext (e1.trans hext)) (hs.ext (e1.trans hext)) (by omega)).mono ?_;rintro e w3 ⟨vd,rfl,hd,hext2⟩;have hcy2:=(b2.ext (hext.trans hext2)).cell 0;go_wp2_with fail;refine(make_calls (!b) vd (m - n) _ (hd.isC.isN W_gt (Nat.le_trans (sz_mono (show m - n≤m by omega)) (by rw[LIM_eq];omega)))).mono ?_;rintro e w4 ⟨v',rfl,hz,hext3⟩;have es:=hext.size;have es2:=hext2.size;obtain⟨s',rfl,hn⟩:=hz;obtain⟨ad,cap,rfl⟩:=hn.slice;have Hn:=Lib.hid hn;clear hn;have hb:=b3.ext ((hext.trans hext2).trans hext3);have hc0:=hb.cell 0;have hc1:=hb.cell 1;have hf0:=hb.free 0;have hf1:=hb.free 1;go_wp2;refine ret_box 4 32 (w.heap.size+2) 32 _ _ (by kernel_rfl) rfl ((hb.set 0 _).set 1 _) Tryz.underlying32 rfl (by kernel_rfl) rfl ?_
   rw[show sgn b n+sgn (!b) m=sgn (!b) (m - n)by cases b<;>simp [sgn]<;>omega]
   exact⟨_,rfl,⟨_,(by first |rfl |simp_all),(Hn.out.chg (Chg.trans (Chg.setCell _ (w.heap.size+2) 0 _) (Chg.setCell _ (w.heap.size+2) 1 _)) (by omega)).mono (by omega)⟩,(((e1.trans hext).trans hext2).trans hext3).step (Chg.trans (Chg.setCell _ (w.heap.size+2) 0 _) (Chg.setCell _ (w.heap.size+2) 1 _)) (by omega)⟩
theorem szZ_add(x y:Int):szZ (x+y)≤max (szZ x) (szZ y)+1:=by
 unfold szZ;exact Nat.le_trans (sz_mono (Int.natAbs_add_le x y)) (sz_add _ _)
theorem szZ_mul(x y:Int):szZ (x*y)≤szZ x+szZ y:=by
 unfold szZ;rw[Int.natAbs_mul];exact sz_mul _ _
theorem szZ_neg(x:Int):szZ (-x)=szZ x:=by unfold szZ;rw[Int.natAbs_neg]
end Go.Proofs.YtokfaggcojokgaaGreat
