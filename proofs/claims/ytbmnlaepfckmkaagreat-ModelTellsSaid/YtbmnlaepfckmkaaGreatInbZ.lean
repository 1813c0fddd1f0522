/-
 zint: of a word, comparison, sums, differences.
-/
import Derived.Test.YtbmnlaepfckmkaaGreatInaZ
namespace Go.Proofs.YtbmnlaepfckmkaaGreat
set_option maxRecDepth 100000
set_option maxHeartbeats 1000000
open Go.RowKit
set_option linter.unusedVariables false
set_option linter.unusedSimpArgs false
theorem szZ_small{n:Nat}(h:n<W):sz W n≤1:=dg_len_le W_gt (by simpa using h)
theorem isN_one{k:IntKind}{B:Nat}(w:World)(c:Nat)(e:TypeId)(hc:c<B):IsN k B (w.alloc (.cells #[.int k (c:Int)] e)) (.slice (some ⟨w.heap.size,0,none⟩) 1 1) c:=
 ⟨[c],⟨_,1,rfl,Nat.le_refl _,by omega,Rd.new1 w k c e⟩,by rw[LIM_eq];simp,fun y hy=>(by simpa using hy:y=c)▸hc,by simp[val]⟩
theorem zof_calls(z:Int)(w:World)(h0: -9223372036854775808≤z)(h1:z≤9223372036854775807):
  Calls Tryz.prog 155 #[.int .i64 z] w fun e w'=>∃v',e= .returned v'∧FrZ w.heap.size w' v' z∧Ext w w':=by
 go_enter Tryz.func155,Tryz.ntmps155
 have h2:=W_eq
 rcases(show z<0∨0≤z by omega)with h |h
 ·have hn:(-(z+1)+1)=(z.natAbs:Int):=by omega
  have hlt:z.natAbs<W:=by omega
  have hz:sgn true z.natAbs=z:=by simp only[sgn,if_true];omega
  go_wp2_with fail;obtain⟨w1,hw1,e1,b1,s1⟩:=alloc1 w #[.bool false,.slice none 0 0] 39;rw[←hw1,←s1];refine(make_calls true _ z.natAbs _ (isN_one w1 z.natAbs 173 hlt)).mono ?_;rw[hz];rintro e w2 ⟨v',rfl,hz,hext⟩;have s2:=alloc_size w1 (.cells #[.int .u64 (z.natAbs:Int)] 173);have e2:=((Ext.refl w1).alloc (.cells #[.int .u64 (z.natAbs:Int)] 173)).trans hext;obtain⟨s',rfl,hn⟩:=hz;obtain⟨ad,cap,rfl⟩:=hn.slice;have Hn:=Lib.hid hn;clear hn;have hb:=b1.ext e2;have hc0:=hb.cell 0;have hc1:=hb.cell 1;have hf0:=hb.free 0;have hf1:=hb.free 1;go_wp2;refine ret_box 2 39 w.heap.size 39 _ _ (by kernel_rfl) rfl ((hb.set 0 _).set 1 _) Tryz.underlying39 rfl (by kernel_rfl) rfl ?_;exact⟨_,rfl,⟨_,(by first |rfl |simp_all),(Hn.out.chg (Chg.trans (Chg.setCell _ w.heap.size 0 _) (Chg.setCell _ w.heap.size 1 _)) (by omega)).mono (by omega)⟩,(e1.trans e2).step (Chg.trans (Chg.setCell _ w.heap.size 0 _) (Chg.setCell _ w.heap.size 1 _)) (by omega)⟩
 ·have hn:=Lib.hid (show z=(z.natAbs:Int)by omega)
  have hlt:z.natAbs<W:=by omega
  have hz:sgn false z.natAbs=z:=by simp only[sgn,if_false,Bool.false_eq_true];omega
  have hlt2:z<18446744073709551616:=by omega
  clear h2;go_wp2_with fail;rw[show (Value.int .u64 z)= .int .u64 (z.natAbs:Int)by rw[←hn.out]];obtain⟨w1,hw1,e1,b1,s1⟩:=alloc1 w #[.bool false,.slice none 0 0] 39;rw[←hw1,←s1];refine(make_calls false _ z.natAbs _ (isN_one w1 z.natAbs 173 hlt)).mono ?_;rw[hz];rintro e w2 ⟨v',rfl,hz,hext⟩;have s2:=alloc_size w1 (.cells #[.int .u64 (z.natAbs:Int)] 173);have e2:=((Ext.refl w1).alloc (.cells #[.int .u64 (z.natAbs:Int)] 173)).trans hext;obtain⟨s',rfl,hn⟩:=hz;obtain⟨ad,cap,rfl⟩:=hn.slice;have Hn:=Lib.hid hn;clear hn;have hb:=b1.ext e2;have hc0:=hb.cell 0;have hc1:=hb.cell 1;have hf0:=hb.free 0;have hf1:=hb.free 1;go_wp2;refine ret_box 2 39 w.heap.size 39 _ _ (by kernel_rfl) rfl ((hb.set 0 _).set 1 _) Tryz.underlying39 rfl (by kernel_rfl) rfl ?_;exact⟨_,rfl,⟨_,(by first |rfl |simp_all),(Hn.out.chg (Chg.trans (Chg.setCell _ w.heap.size 0 _) (Chg.setCell _ w.heap.size 1 _)) (by omega)).mono (by omega)⟩,(e1.trans e2).step (Chg.trans (Chg.setCell _ w.heap.size 0 _) (Chg.setCell _ w.heap.size 1 _)) (by omega)⟩
theorem sign_cases(x:Int):(x.sign= -1∧x<0)∨(x.sign=0∧x=0)∨(x.sign=1∧0<x):=by
 rcases(show x<0∨x=0∨0<x by omega)with h |h |h
 ·exact .inl ⟨Int.sign_eq_neg_one_of_neg h,h⟩
 ·exact .inr (.inl ⟨by rw[h];rfl,h⟩)
 ·exact .inr (.inr ⟨Int.sign_eq_one_of_pos h,h⟩)
theorem cmpN_sign(n m:Nat):cmpN n m=((n:Int) - m).sign:=by
 have:=sign_cases ((n:Int) - m)
 unfold cmpN
 split<;>(try split)<;>omega
theorem cmp_neg{b c:Bool}{n m:Nat}{x y:Int}(hx:x=sgn b n)(hy:y=sgn c m)(h:x.sign=y.sign)(h2:y<0):cmpN m n=(x - y).sign:=by
 have cx:=sign_cases x;have cy:=sign_cases y;have hb:=((sgn_lt b n).1 (by omega)).1;have hc:=((sgn_lt c m).1 (by omega)).1;subst hb hc;rw[cmpN_sign,hx,hy]
 congr 1
 simp only[sgn,if_true]
 omega
theorem cmp_pos{b c:Bool}{n m:Nat}{x y:Int}(hx:x=sgn b n)(hy:y=sgn c m)(h:x.sign=y.sign)(h2:0≤y):cmpN n m=(x - y).sign:=by
 have cx:=sign_cases x;have cy:=sign_cases y
 have hb:sgn b n=n:=by
  cases b
  ·rfl
  ·simp only[sgn,if_true]at*;omega
 have hc:sgn c m=m:=by
  cases c
  ·rfl
  ·simp only[sgn,if_true]at*;omega
 rw[cmpN_sign,hx,hy,hb,hc]
theorem zcmp_calls(v u:Value)(x y:Int)(w:World)(hv:IsZ w v x)(hu:IsZ w u y):
  Calls Tryz.prog 184 #[v,u] w fun e w'=>e= .returned (.int .i64 (x - y).sign)∧Ext w w':=by
 have hV:=Lib.hid hv;have hU:=Lib.hid hu;obtain⟨b,s,n,rfl,hs,hx⟩:=hv;obtain⟨c,t,m,rfl,ht,hy⟩:=hu
 go_enter Tryz.func184,Tryz.ntmps184
 go_wp2_with fail;obtain⟨w1,hw1,e1,b1,b2,s1⟩:=alloc2 w #[.bool b,s] #[.bool c,t] 39 39;rw[←hw1];clear hw1;refine wpQ [PP.val (.agg #[.bool b,s]),PP.val (.int .i64 x.sign),PP.val (.agg #[.bool c,t]),PP.val (.int .i64 y.sign),PP.val (.int .i64 x.sign),PP.val (.int .i64 y.sign)] [] [0,1,2,3,4,5] ?_ ?_
 ·refine⟨?_,?_,?_,?_,?_,?_,trivial⟩
  ·intro f w2 hG hp hl;have hE:Ext w1 w2:=hG;change OpGoal _ _ _ f w2 Ext _;exact og_load (P:=Tryz.prog) _ _ w.heap.size _ _ _ rfl rfl rfl (b1.ext hE) Tryz.underlying39 rfl (by kernel_rfl) rfl
  ·intro f w2 hG hp hl;have hE:Ext w1 w2:=hG;have q7:=tE hp 0 0 rfl rfl rfl;change OpGoal _ _ _ f w2 Ext _;refine oC #[f 0] Tryz.func174 rfl rfl ?_;rw[q7];refine(zsign_calls _ x _ (hV.out.ext (e1.trans hE))).mono ?_;rintro e w' ⟨rfl,h2⟩;exact⟨_,rfl,h2,rfl⟩
  ·intro f w2 hG hp hl;have hE:Ext w1 w2:=hG;change OpGoal _ _ _ f w2 Ext _;exact og_load (P:=Tryz.prog) _ _ (w.heap.size+1) _ _ _ rfl rfl rfl (b2.ext hE) Tryz.underlying39 rfl (by kernel_rfl) rfl
  ·intro f w2 hG hp hl;have hE:Ext w1 w2:=hG;have q9:=tE hp 0 2 rfl rfl rfl;change OpGoal _ _ _ f w2 Ext _;refine oC #[f 2] Tryz.func174 rfl rfl ?_;rw[q9];refine(zsign_calls _ y _ (hU.out.ext (e1.trans hE))).mono ?_;rintro e w' ⟨rfl,h2⟩;exact⟨_,rfl,h2,rfl⟩
  ·intro f w2 hG hp hl;have hE:Ext w1 w2:=hG;have q8:=tellV hp 0 1 rfl rfl (fun _=>hE);exact⟨_,rfl,Ext.refl _,q8⟩
  ·intro f w2 hG hp hl;have hE:Ext w1 w2:=hG;have q10:=tellV hp 0 3 rfl rfl (fun _=>hE);exact⟨_,rfl,Ext.refl _,q10⟩
 ·intro f w2 hG hp;have hE:Ext w1 w2:=ChgS.nil hG
  have q5:f 4= .int .i64 x.sign:=endV hp 4 (by decide) rfl (fun h=>by cases h)
  have q6:f 5= .int .i64 y.sign:=endV hp 5 (by decide) rfl (fun h=>by cases h)
  clear hp;have hcx:=(b1.ext hE).cell 1;have hcy:=(b2.ext hE).cell 1;have Hx:=Lib.hid hx;have Hy:=Lib.hid hy;have cx:=Lib.hid (sign_cases x);have cy:=Lib.hid (sign_cases y);have cz:=Lib.hid (sign_cases (x - y));clear hx hy;go_wp2_with fail
  ·refine(cmp_calls _ _ _ _ _ (ht.ext (e1.trans hE)) (hs.ext (e1.trans hE))).mono ?_;rintro e w3 ⟨rfl,hext⟩;go_wp2;go_ret;exact⟨ret_int (cmp_neg Hx.out Hy.out ‹_› ‹_›),(e1.trans hE).trans hext⟩
  ·refine(cmp_calls _ _ _ _ _ (hs.ext (e1.trans hE)) (ht.ext (e1.trans hE))).mono ?_;rintro e w3 ⟨rfl,hext⟩;go_wp2;go_ret;exact⟨ret_int (cmp_pos Hx.out Hy.out ‹_› ‹_›),(e1.trans hE).trans hext⟩
  ·go_ret;have cx:=cx.out;have cy:=cy.out;have cz:=cz.out
   rename_i hlt
   have:=hlt.2
   exact⟨ret_int (by omega),e1.trans hE⟩
  ·go_ret;have cx:=cx.out;have cy:=cy.out;have cz:=cz.out
   rename_i h1 h2 h3
   have h4:y.sign≤x.sign:=by rcases h2 with h |h;(rw[h3]at h;cases h);exact h
   exact⟨ret_int (by omega),e1.trans hE⟩
theorem zadd_calls(v u:Value)(x y:Int)(w:World)(hv:IsZ w v x)(hu:IsZ w u y)(hsx:szZ x≤68719476736)(hsy:szZ y≤68719476736):
  Calls Tryz.prog 183 #[v,u] w fun e w'=>∃v',e= .returned v'∧FrZ w.heap.size w' v' (x+y)∧Ext w w':=by
 obtain⟨b,s,n,rfl,hs,rfl⟩:=hv;obtain⟨c,t,m,rfl,ht,rfl⟩:=hu;unfold szZ at hsx hsy;rw[sgn_natAbs]at hsx hsy
 go_enter Tryz.func183,Tryz.ntmps183
 by_cases hbc:b=c
 ·subst hbc;go_wp2_with fail;obtain⟨w1,hw1,e1,b1,b2,b3,s1⟩:=alloc3 w #[.bool b,s] #[.bool b,t] #[.bool false,.slice none 0 0] 39 39 39;rw[←hw1];clear hw1;refine wpP [⟨8,(w.heap.size+2),39,PP.frZ (sgn b (n+m))⟩] [PP.val (.pointer (some ⟨w.heap.size,0,none⟩)),PP.val (.bool b),PP.val (.pointer (some ⟨w.heap.size,1,none⟩)),PP.val (s),PP.val (.pointer (some ⟨(w.heap.size+1),1,none⟩)),PP.val (t),PP.frN 173 .u64 W (n+m),PP.frZ (sgn b (n+m)),PP.any] [] [8,7,6,5,4,3,2,1,0] ?_ ?_ ?_ ?_ ?_
  ·intro x hx;simp only[List.mem_singleton]at hx;subst hx;exact⟨by show(w.heap.size+2)<w1.heap.size;omega,rfl⟩
  ·intro x hx;simp only[List.mem_singleton]at hx;subst hx;rfl
  ·intro x hx y hy h;simp only[List.mem_singleton]at hx hy;subst hx hy;exact absurd rfl h
  ·refine⟨?_,?_,?_,?_,?_,?_,?_,?_,?_,trivial⟩
   ·intro f w2 hG hp hl;simp only[OpGoal];go_simp;exact⟨_,rfl,Ext.refl _,rfl⟩
   ·intro f w2 hG hp hl;have hE:Ext w1 w2:=hG;have q14:=tE hp 0 0 rfl rfl rfl;have hcell:=(b1.ext hE).cell 0;simp only[OpGoal];go_simp;exact⟨_,rfl,Ext.refl _,rfl⟩
   ·intro f w2 hG hp hl;simp only[OpGoal];go_simp;exact⟨_,rfl,Ext.refl _,rfl⟩
   ·intro f w2 hG hp hl;have hE:Ext w1 w2:=hG;have q16:=tE hp 0 2 rfl rfl rfl;have hcell:=(b1.ext hE).cell 1;simp only[OpGoal];go_simp;exact⟨_,rfl,Ext.refl _,rfl⟩
   ·intro f w2 hG hp hl;simp only[OpGoal];go_simp;exact⟨_,rfl,Ext.refl _,rfl⟩
   ·intro f w2 hG hp hl;have hE:Ext w1 w2:=hG;have q18:=tE hp 0 4 rfl rfl rfl;have hcell:=(b2.ext hE).cell 1;simp only[OpGoal];go_simp;exact⟨_,rfl,Ext.refl _,rfl⟩
   ·intro f w2 hG hp hl;have hE:Ext w1 w2:=hG;have hS:=hE.size;have q17:=tE hp 0 3 rfl rfl rfl;have q19:=tE hp 1 5 rfl rfl rfl;change OpGoal _ _ _ f w2 Ext _;refine oC #[f 3,f 5] Tryz.func200 rfl rfl ?_;rw[q17,q19];refine(add_calls _ _ n m _ (hs.ext (e1.trans hE)) (ht.ext (e1.trans hE))).mono ?_;rintro e w' ⟨v',rfl,h1,h2⟩;exact⟨v',rfl,h2,h1.mono hS⟩
   ·intro f w2 hG hp hl;have hE:Ext w1 w2:=hG;have hS:=hE.size;have q15:=tE hp 0 1 rfl rfl rfl;have q20:=tellV hp 1 6 rfl rfl (fun _=>hE);change OpGoal _ _ _ f w2 Ext _;refine oC #[f 1,f 6] Tryz.func185 rfl rfl ?_;rw[q15];refine(make_calls _ _ _ _ (q20.isC.isN W_gt (Nat.le_trans (sz_add n m) (by rw[LIM_eq];omega)))).mono ?_;rintro e w' ⟨v',rfl,h1,h2⟩;exact⟨v',rfl,h2,h1.mono hS⟩
   ·intro f w2 hG hp hl;have hE:Ext w1 w2:=hG;have hS:=hE.size;have q21:=tellV hp 0 7 rfl rfl (fun _=>hE);intro hg0;change OpGoal _ _ _ f w2 (Chg _) _;obtain⟨s',hv,hn⟩:=q21;exact og_store (P:=Tryz.prog) _ _ _ (w.heap.size+2) _ _ _ (PP.frZ _:PP _).p rfl rfl rfl hv (show Bx 39 w2 _ _ from hg0.trans b3) (by kernel_rfl) rfl (all2 rfl hn.oneCell) (fun w' h=>⟨s',rfl,hn.chg h (by omega)⟩)
  ·intro f w2 hG hp;obtain⟨cs0,hbx0,hz0⟩:∃cs,Bx 39 w2 (w.heap.size+2) cs∧(PP.frZ (sgn b (n+m)):PP w1.heap.size).p (.agg cs) w2:=endS hp 8 (by decide);clear hp;have hz1:=hz0.mono (show w.heap.size≤_ by omega);obtain⟨s',hv,hn⟩:=hz0
   cases hv
   go_wp2;refine ret_box 4 39 (w.heap.size+2) 39 _ _ (by kernel_rfl) rfl hbx0 Tryz.underlying39 rfl (by kernel_rfl) rfl ?_
   rw[show sgn b n+sgn b m=sgn b (n+m)by cases b<;>simp [sgn]<;>omega]
   exact⟨_,rfl,hz1,e1.stepS hG (by simp)⟩
 ·have hc:c=!b:=by cases b<;>cases c<;>simp_all
  have hdec:(b==!b)=false:=by cases b<;>rfl
  subst hc
  rcases(show m≤n∨n<m by omega)with hle |hlt
  ·go_wp2_with fail;obtain⟨w1,hw1,e1,b1,b2,b3,s1⟩:=alloc3 w #[.bool b,s] #[.bool !b,t] #[.bool false,.slice none 0 0] 39 39 39;rw[←hw1];clear hw1;refine(sub_yes _ _ n m _ (hs.ext e1) (ht.ext e1) hle).mono ?_;rintro e w2 ⟨vd,rfl,hd,hext⟩;have hcx:=(b1.ext hext).cell 0;go_wp2_with fail;refine(make_calls b vd (n - m) _ (hd.isC.isN W_gt (Nat.le_trans (sz_mono (show n - m≤n by omega)) (by rw[LIM_eq];omega)))).mono ?_;rintro e w3 ⟨v',rfl,hz,hext2⟩;have es:=hext.size;obtain⟨s',rfl,hn⟩:=hz;obtain⟨ad,cap,rfl⟩:=hn.slice;have Hn:=Lib.hid hn;clear hn;have hb:=b3.ext (hext.trans hext2);have hc0:=hb.cell 0;have hc1:=hb.cell 1;have hf0:=hb.free 0;have hf1:=hb.free 1;go_wp2;refine ret_box 4 39 (w.heap.size+2) 39 _ _ (by kernel_rfl) rfl ((hb.set 0 _).set 1 _) Tryz.underlying39 rfl (by kernel_rfl) rfl ?_
   rw[show sgn b n+sgn (!b) m=sgn b (n - m)by cases b<;>simp [sgn]<;>omega]
   exact⟨_,rfl,⟨_,(by first |rfl |simp_all),(Hn.out.chg (Chg.trans (Chg.setCell _ (w.heap.size+2) 0 _) (Chg.setCell _ (w.heap.size+2) 1 _)) (by omega)).mono (by omega)⟩,((e1.trans hext).trans hext2).step (Chg.trans (Chg.setCell _ (w.heap.size+2) 0 _) (Chg.setCell _ (w.heap.size+2) 1 _)) (by omega)⟩
  ·go_wp2_with fail;obtain⟨w1,hw1,e1,b1,b2,b3,s1⟩:=alloc3 w #[.bool b,s] #[.bool !b,t] #[.bool false,.slice none 0 0] 39 39 39;rw[←hw1];clear hw1;refine(sub_no _ _ n m _ (hs.ext e1) (ht.ext e1) hlt).mono ?_;rintro e w2 ⟨rfl,hext⟩;have hcx:=(b1.ext hext).cell 1;have hcy:=(b2.ext hext).cell 1;go_wp2_with fail;refine(sub_yes _ _ m n _ (ht.ext (e1.trans hext)) (hs.ext (e1.trans hext)) (by omega)).mono ?_;rintro e w3 ⟨vd,rfl,hd,hext2⟩;have hcy2:=(b2.ext (hext.trans hext2)).cell 0;go_wp2_with fail;refine(make_calls (!b) vd (m - n) _ (hd.isC.isN W_gt (Nat.le_trans (sz_mono (show m - n≤m by omega)) (by rw[LIM_eq];omega)))).mono ?_;rintro e w4 ⟨v',rfl,hz,hext3⟩;have es:=hext.size;have es2:=hext2.size;obtain⟨s',rfl,hn⟩:=hz;obtain⟨ad,cap,rfl⟩:=hn.slice;have Hn:=Lib.hid hn;clear hn;have hb:=b3.ext ((hext.trans hext2).trans hext3);have hc0:=hb.cell 0;have hc1:=hb.cell 1;have hf0:=hb.free 0;have hf1:=hb.free 1;go_wp2;refine ret_box 4 39 (w.heap.size+2) 39 _ _ (by kernel_rfl) rfl ((hb.set 0 _).set 1 _) Tryz.underlying39 rfl (by kernel_rfl) rfl ?_
   rw[show sgn b n+sgn (!b) m=sgn (!b) (m - n)by cases b<;>simp [sgn]<;>omega]
   exact⟨_,rfl,⟨_,(by first |rfl |simp_all),(Hn.out.chg (Chg.trans (Chg.setCell _ (w.heap.size+2) 0 _) (Chg.setCell _ (w.heap.size+2) 1 _)) (by omega)).mono (by omega)⟩,(((e1.trans hext).trans hext2).trans hext3).step (Chg.trans (Chg.setCell _ (w.heap.size+2) 0 _) (Chg.setCell _ (w.heap.size+2) 1 _)) (by omega)⟩
theorem Own.chgS{e:TypeId}{B:Nat}{w w':World}{ad:Option Addr}{cap:Nat}{xs:List Value}{bs:List Nat}(h:Own e B w ad cap xs)(he:ChgS bs w w')(hb:∀g∈bs,g<B):Own e B w' ad cap xs:=by
 rcases h with h |⟨g,cur,h1,h2,h3,h4⟩
 ·exact .inl h
 ·exact .inr ⟨g,cur,h1,h2,he.blk h3 (fun hm=>by have:=hb g hm;omega),h4⟩
theorem FrL.chgS{e:TypeId}{k:IntKind}{B0:Nat}{w w':World}{v:Value}{xs:List Nat}{bs:List Nat}(h:FrL e k B0 w v xs)(he:ChgS bs w w')(hb:∀g∈bs,g<B0):FrL e k B0 w' v xs:=by
 obtain⟨ad,cap,h1,h2,h3,h4⟩:=h;exact⟨ad,cap,h1,h2,h3,h4.chgS he hb⟩
theorem FrN.chgS{e:TypeId}{k:IntKind}{B B0:Nat}{w w':World}{v:Value}{n:Nat}{bs:List Nat}(h:FrN e k B B0 w v n)(he:ChgS bs w w')(hb:∀g∈bs,g<B0):FrN e k B B0 w' v n:=FrL.chgS h he hb
theorem FrZ.chgS{B0:Nat}{w w':World}{v:Value}{z:Int}{bs:List Nat}(h:FrZ B0 w v z)(he:ChgS bs w w')(hb:∀g∈bs,g<B0):FrZ B0 w' v z:=by
 obtain⟨s,h1,h2⟩:=h;exact⟨s,h1,h2.chgS he hb⟩
theorem szZ_add(x y:Int):szZ (x+y)≤max (szZ x) (szZ y)+1:=by
 unfold szZ;exact Nat.le_trans (sz_mono (Int.natAbs_add_le x y)) (sz_add _ _)
theorem szZ_mul(x y:Int):szZ (x*y)≤szZ x+szZ y:=by
 unfold szZ;rw[Int.natAbs_mul];exact sz_mul _ _
theorem szZ_neg(x:Int):szZ (-x)=szZ x:=by unfold szZ;rw[Int.natAbs_neg]
theorem zsub_calls(v u:Value)(x y:Int)(w:World)(hv:IsZ w v x)(hu:IsZ w u y)(hsx:szZ x≤68719476736)(hsy:szZ y≤68719476736):
  Calls Tryz.prog 205 #[v,u] w fun e w'=>∃v',e= .returned v'∧FrZ w.heap.size w' v' (x - y)∧Ext w w':=by
 have hV:=Lib.hid hv;have hU:=Lib.hid hu;obtain⟨b,s,n,rfl,hs,hx⟩:=hv;obtain⟨c,t,m,rfl,ht,hy⟩:=hu
 go_enter Tryz.func205,Tryz.ntmps205
 go_wp2_with fail;obtain⟨w1,hw1,e1,b1,b2,b3,s1⟩:=alloc3 w #[.bool b,s] #[.bool c,t] #[.bool false,.slice none 0 0] 39 39 39;rw[←hw1];clear hw1;refine wpP [⟨4,(w.heap.size+2),39,PP.frZ (x+ -y)⟩] [PP.val (.agg #[.bool b,s]),PP.val (.agg #[.bool c,t]),PP.frZ (-y),PP.frZ (x+ -y),PP.any] [] [4,3,2,1,0] ?_ ?_ ?_ ?_ ?_
 ·intro x hx;simp only[List.mem_singleton]at hx;subst hx;exact⟨by show(w.heap.size+2)<w1.heap.size;omega,rfl⟩
 ·intro x hx;simp only[List.mem_singleton]at hx;subst hx;rfl
 ·intro x hx y hy h;simp only[List.mem_singleton]at hx hy;subst hx hy;exact absurd rfl h
 ·refine⟨?_,?_,?_,?_,?_,trivial⟩
  ·intro f w2 hG hp hl;have hE:Ext w1 w2:=hG;change OpGoal _ _ _ f w2 Ext _;exact og_load (P:=Tryz.prog) _ _ w.heap.size _ _ _ rfl rfl rfl (b1.ext hE) Tryz.underlying39 rfl (by kernel_rfl) rfl
  ·intro f w2 hG hp hl;have hE:Ext w1 w2:=hG;change OpGoal _ _ _ f w2 Ext _;exact og_load (P:=Tryz.prog) _ _ (w.heap.size+1) _ _ _ rfl rfl rfl (b2.ext hE) Tryz.underlying39 rfl (by kernel_rfl) rfl
  ·intro f w2 hG hp hl;have hE:Ext w1 w2:=hG;have hS:=hE.size;have q6:=tE hp 0 1 rfl rfl rfl;change OpGoal _ _ _ f w2 Ext _;refine oC #[f 1] Tryz.func176 rfl rfl ?_;rw[q6];refine(zneg_calls _ y _ (hU.out.ext (e1.trans hE))).mono ?_;rintro e w' ⟨v',rfl,h1,h2⟩;exact⟨v',rfl,h2,h1.mono hS⟩
  ·intro f w2 hG hp hl;have hE:Ext w1 w2:=hG;have hS:=hE.size;have q5:=tE hp 0 0 rfl rfl rfl;have q7:=tellV hp 1 2 rfl rfl (fun _=>hE);change OpGoal _ _ _ f w2 Ext _;refine oC #[f 0,f 2] Tryz.func183 rfl rfl ?_;rw[q5];refine(zadd_calls _ _ x (-y) _ (hV.out.ext (e1.trans hE)) (q7.isZ (by rw[szZ_neg,LIM_eq];omega)) hsx (by rw[szZ_neg];exact hsy)).mono ?_;rintro e w' ⟨v',rfl,h1,h2⟩;exact⟨v',rfl,h2,h1.mono hS⟩
  ·intro f w2 hG hp hl;have hE:Ext w1 w2:=hG;have hS:=hE.size;have q8:=tellV hp 0 3 rfl rfl (fun _=>hE);intro hg0;change OpGoal _ _ _ f w2 (Chg _) _;obtain⟨s',hv,hn⟩:=q8;exact og_store (P:=Tryz.prog) _ _ _ (w.heap.size+2) _ _ _ (PP.frZ _:PP _).p rfl rfl rfl hv (show Bx 39 w2 _ _ from hg0.trans b3) (by kernel_rfl) rfl (all2 rfl hn.oneCell) (fun w' h=>⟨s',rfl,hn.chg h (by omega)⟩)
 ·intro f w2 hG hp;obtain⟨cs0,hbx0,hz0⟩:∃cs,Bx 39 w2 (w.heap.size+2) cs∧(PP.frZ (x+ -y):PP w1.heap.size).p (.agg cs) w2:=endS hp 4 (by decide);clear hp;have hz1:=hz0.mono (show w.heap.size≤_ by omega);obtain⟨s',hv,hn⟩:=hz0
  cases hv
  go_wp2;refine ret_box 4 39 (w.heap.size+2) 39 _ _ (by kernel_rfl) rfl hbx0 Tryz.underlying39 rfl (by kernel_rfl) rfl ?_;rw[Int.sub_eq_add_neg];exact⟨_,rfl,hz1,e1.stepS hG (by simp)⟩
theorem floor_fix(x:Int)(y:Nat)(hy:0<y):x / (y:Int)=if x<0∧0<x.natAbs % y then sgn (decide (x<0)) (x.natAbs / y) - 1 else sgn (decide (x<0)) (x.natAbs / y):=by
 have h1:=Nat.div_add_mod x.natAbs y;have h2:=Nat.mod_lt x.natAbs hy
 by_cases hx:x<0
 ·have e:x= -((y:Int)*((x.natAbs / y:Nat):Int)+((x.natAbs % y:Nat):Int)):=by
   rw[←Int.natCast_mul,←Int.natCast_add,h1];omega
  generalize x.natAbs / y=q at*
  generalize x.natAbs % y=r at*
  simp only[hx,decide_true,sgn,if_true,true_and]
  split
  ·refine((Int.ediv_emod_unique (r:=(y:Int) - r) (by omega)).2 ⟨?_,by omega,by omega⟩).1;rw[e,Int.mul_sub,Int.mul_neg]
   omega
  ·refine((Int.ediv_emod_unique (r:=0) (by omega)).2 ⟨?_,by omega,by omega⟩).1;rw[e,Int.mul_neg]
   omega
 ·rw[if_neg (by omega),decide_eq_false hx];simp only[sgn,if_false,Bool.false_eq_true];rw[Int.natCast_ediv]
  congr 1
  omega
set_option maxHeartbeats 4000000 in
theorem zdivfloor_calls(v t:Value)(x:Int)(y:Nat)(w:World)(hv:IsZ w v x)(ht:IsN .u64 W w t y)(hy:0<y)(hsx:szZ x≤34359738368)(hsy:sz W y≤34359738300):
  Calls Tryz.prog 187 #[v,.agg #[.bool false,t]] w fun e w'=>∃v1 v2,e= .returned (.tuple #[v1,v2,.int .i64 0])∧FrZ w.heap.size w' v1 (x / (y:Int))∧FrZ w.heap.size w' v2 (x % (y:Int))∧Ext w w':=by
 have hV:=Lib.hid hv;obtain⟨b,s,n,rfl,hs,hx⟩:=hv
 have hsn:sz W n≤34359738368:=by rw[hx]at hsx;unfold szZ at hsx;rwa [sgn_natAbs]at hsx
 go_enter Tryz.func187,Tryz.ntmps187
 go_wp2_with fail;obtain⟨w1,hw1,e1,b1,b2,b3,b4,s1⟩:=alloc4 w #[.bool b,s] #[.bool false,t] #[.bool false,.slice none 0 0] #[.bool false,.slice none 0 0] 39 39 39 39;rw[←hw1];clear hw1;refine(divmod_calls _ _ n y _ (hs.ext e1) (ht.ext e1) hy (by omega)).mono ?_;rintro e w2 ⟨vq,vr,rfl,hq,hr,e2⟩;have hc0:=(b1.ext e2).cell 0;have hc1:=(b2.ext e2).cell 0;go_wp2_with fail;refine(make_calls _ vq (n / y) _ (hq.isC.isN W_gt (Nat.le_trans (sz_mono (Nat.div_le_self n y)) (by rw[LIM_eq];omega)))).mono ?_;rintro e w3 ⟨vz,rfl,hz,e3⟩;obtain⟨s',rfl,hn⟩:=hz;obtain⟨ad,cap,rfl⟩:=hn.slice;obtain⟨adr,capr,rfl⟩:=hr.slice;have Hn:=Lib.hid hn;have Hr:=Lib.hid hr;have hrz:= @sz_zero (n % y);clear hn hr;have hY:IsZ w (.agg #[.bool false,t]) (y:Int):=⟨false,t,y,rfl,ht,rfl⟩
 have hszy:szZ (y:Int)=sz W y:=rfl
 obtain⟨w4,hw4,e4,b5,s4⟩:=alloc1 w3 #[.bool (decide (sgn b (n / y)<0)),.slice ad (sz W (sgn b (n / y)).natAbs) cap] 39;have E:=((e1.trans e2).trans e3).trans e4;have B1:=((b1.ext e2).ext e3).ext e4;have B2:=((b2.ext e2).ext e3).ext e4;have B3:=((b3.ext e2).ext e3).ext e4;have B4:=((b4.ext e2).ext e3).ext e4;have hsz2:=e2.size;have hsz3:=e3.size;have hd0:=B1.cell 0;have hd1:=B2.cell 0;have hfl:=floor_fix x y hy
 have hxn:x.natAbs=n:=by rw[hx,sgn_natAbs]
 have hsg:sgn (decide (x<0)) n=x:=by rw[←hxn];exact sgn_self x
 rw[hw4]at hd0 hd1
 cases b
 ·have hx0:x / (y:Int)=sgn false (n / y):=by
   have:¬x<0:=by rw[hx,sgn_lt];simp
   rw[hfl,if_neg (by omega),hxn,decide_eq_false this]
  have Hx:=Lib.hid hx;have Hsg:=Lib.hid hsg;have Hfl:=Lib.hid hfl;clear hx hsg hfl;go_wp2_with fail;rw[←hw4];have Hq:FrZ (w.heap.size+4) w4 _ (sgn false (n / y)):=⟨_,rfl,(Hn.out.ext e4).mono (by omega)⟩
  have Hsz:szZ (sgn false (n / y))≤34359738370:=by unfold szZ;rw[sgn_natAbs];exact Nat.le_trans (sz_mono (Nat.div_le_self n y)) (by omega)
  have O10:(Value.slice ad (sz W (sgn false (n / y)).natAbs) cap).oneCell'=true:=rfl
  have B5:=b5;have S:=s1;refine wpP [⟨6,(w.heap.size+2),39,PP.val (.agg #[.bool (decide (sgn false (n / y)<0)),.slice ad (sz W (sgn false (n / y)).natAbs) cap])⟩,⟨7,(w.heap.size+3),39,PP.frZ (x - sgn false (n / y)*(y:Int))⟩] [PP.val (.agg #[.bool (decide (sgn false (n / y)<0)),.slice ad (sz W (sgn false (n / y)).natAbs) cap]),PP.val (.agg #[.bool false,s]),PP.val (.agg #[.bool (decide (sgn false (n / y)<0)),.slice ad (sz W (sgn false (n / y)).natAbs) cap]),PP.val (.agg #[.bool false,t]),PP.frZ (sgn false (n / y)*(y:Int)),PP.frZ (x - sgn false (n / y)*(y:Int)),PP.any,PP.any,PP.val (.int .i64 0)] [] [6,5,4,3,2,1,0] ?_ ?_ ?_ ?_ ?_
  ·intro x hx;simp only[List.mem_cons,List.not_mem_nil,or_false]at hx;rcases hx with rfl |rfl
   ·exact⟨by show(w.heap.size+2)<w4.heap.size;omega,rfl⟩
   ·exact⟨by show(w.heap.size+3)<w4.heap.size;omega,rfl⟩
  ·intro x hx;simp only[List.mem_cons,List.not_mem_nil,or_false]at hx;rcases hx with rfl |rfl<;>rfl
  ·intro x hx y hy h;simp only[List.mem_cons,List.not_mem_nil,or_false]at hx hy;rcases hx with rfl |rfl<;>rcases hy with rfl |rfl
   ·exact absurd rfl h
   ·show(w.heap.size+2)≠(w.heap.size+3);omega
   ·show(w.heap.size+3)≠(w.heap.size+2);omega
   ·exact absurd rfl h
  ·refine⟨?_,?_,?_,?_,?_,?_,?_,?_,?_,trivial⟩
   ·intro f w2 hG hp hl;have hE:Ext w4 w2:=hG;change OpGoal _ _ _ f w2 Ext _;exact og_load (P:=Tryz.prog) _ _ w3.heap.size _ _ _ rfl rfl rfl (B5.ext hE) Tryz.underlying39 rfl (by kernel_rfl) rfl
   ·intro f w2 hG hp hl;have hE:Ext w4 w2:=hG;change OpGoal _ _ _ f w2 Ext _;exact og_load (P:=Tryz.prog) _ _ w.heap.size _ _ _ rfl rfl rfl (B1.ext hE) Tryz.underlying39 rfl (by kernel_rfl) rfl
   ·intro f w2 hG hp hl;have hE:Ext w4 w2:=hG;change OpGoal _ _ _ f w2 Ext _;exact og_load (P:=Tryz.prog) _ _ w3.heap.size _ _ _ rfl rfl rfl (B5.ext hE) Tryz.underlying39 rfl (by kernel_rfl) rfl
   ·intro f w2 hG hp hl;have hE:Ext w4 w2:=hG;change OpGoal _ _ _ f w2 Ext _;exact og_load (P:=Tryz.prog) _ _ (w.heap.size+1) _ _ _ rfl rfl rfl (B2.ext hE) Tryz.underlying39 rfl (by kernel_rfl) rfl
   ·intro f w2 hG hp hl;have hE:Ext w4 w2:=hG;have hS:=hE.size;have q47:=tE hp 0 2 rfl rfl rfl;have q48:=tE hp 1 3 rfl rfl rfl;change OpGoal _ _ _ f w2 Ext _;refine oC #[f 2,f 3] Tryz.func180 rfl rfl ?_;rw[q47,q48];refine(zmul_calls _ _ (sgn false (n / y)) (y:Int) _ ((Hq.isZ (by rw[LIM_eq];omega)).ext hE) (hY.ext (E.trans hE)) (by rw[hszy];omega)).mono ?_;rintro e w' ⟨v',rfl,h1,h2⟩;exact⟨v',rfl,h2,h1.mono hS⟩
   ·intro f w2 hG hp hl;have hE:Ext w4 w2:=hG;have hS:=hE.size;have q46:=tE hp 0 1 rfl rfl rfl;have q49:=tellV hp 1 4 rfl rfl (fun _=>hE);change OpGoal _ _ _ f w2 Ext _;refine oC #[f 1,f 4] Tryz.func205 rfl rfl ?_;rw[q46];refine(zsub_calls _ _ x (sgn false (n / y)*(y:Int)) _ (hV.out.ext (E.trans hE)) (q49.isZ (by have:=szZ_mul (sgn false (n / y)) (y:Int);rw[LIM_eq];omega)) (by omega) (by have:=szZ_mul (sgn false (n / y)) (y:Int);omega)).mono ?_;rintro e w' ⟨v',rfl,h1,h2⟩;exact⟨v',rfl,h2,h1.mono hS⟩
   ·intro f w2 hG hp hl;have q45:=tE hp 0 0 rfl rfl rfl;intro hg0;change OpGoal _ _ _ f w2 (Chg _) _;exact og_store (P:=Tryz.prog) _ _ _ (w.heap.size+2) _ _ _ (PP.val _:PP _).p rfl rfl rfl q45 (show Bx 39 w2 _ _ from hg0.trans B3) (by kernel_rfl) rfl (all2 rfl O10) (fun w' h=>rfl)
   ·intro f w2 hG hp hl;have hS:w4.heap.size≤w2.heap.size:=hG.2.2.2.1;have q50:=tellV hp 0 5 rfl rfl (fun _=>by contradiction);intro hg0;change OpGoal _ _ _ f w2 (Chg _) _;obtain⟨s',hv,hn⟩:=q50;exact og_store (P:=Tryz.prog) _ _ _ (w.heap.size+3) _ _ _ (PP.frZ _:PP _).p rfl rfl rfl hv (show Bx 39 w2 _ _ from hg0.trans B4) (by kernel_rfl) rfl (all2 rfl hn.oneCell) (fun w' h=>⟨s',rfl,hn.chg h (by omega)⟩)
   ·intro f w2 hG hp hl;have hS:w4.heap.size≤w2.heap.size:=hG.2.2.2.1;simp only[OpGoal];go_simp;exact⟨_,rfl,Ext.refl _,rfl⟩
  ·intro f w2 hG hp;obtain⟨cs0,hbx0,hz0⟩:∃cs,Bx 39 w2 (w.heap.size+2) cs∧(PP.val (.agg #[.bool (decide (sgn false (n / y)<0)),.slice ad (sz W (sgn false (n / y)).natAbs) cap]):PP w4.heap.size).p (.agg cs) w2:=endS hp 6 (by decide);obtain⟨cs1,hbx1,hz1⟩:∃cs,Bx 39 w2 (w.heap.size+3) cs∧(PP.frZ (x - sgn false (n / y)*(y:Int)):PP w4.heap.size).p (.agg cs) w2:=endS hp 7 (by decide)
   have q6:f 8= .int .i64 0:=endV hp 8 (by decide) rfl (fun h=>by cases h)
   clear hp;have hz2:=hz1.mono (show w.heap.size≤_ by omega);obtain⟨s',hv,hn⟩:=hz1
   cases hv
   cases hz0
   go_wp2
   have hm:x % (y:Int)=x - sgn false (n / y)*(y:Int):=by rw[Int.emod_def,hx0,Int.mul_comm]
   refine ret_box3 4 5 6 39 39 (w.heap.size+2) (w.heap.size+3) 39 39 _ _ _ _ _ (by kernel_rfl) rfl rfl q6 hbx0 hbx1 Tryz.underlying39 rfl (by kernel_rfl) Tryz.underlying39 rfl (by kernel_rfl) rfl ?_;refine⟨_,_,rfl,?_,?_,E.stepS hG (by simp)⟩
   ·rw[hx0];exact(Hq.chgS hG (by simp)).mono (by omega)
   ·rw[hm];exact hz2
 ·have hx0':x / (y:Int)=if 0<n % y then sgn true (n / y) - 1 else sgn true (n / y):=by
   rw[hfl,hxn]
   rcases Nat.eq_zero_or_pos n with h0 |h0
   ·have:¬x<0:=by rw[hx,sgn_lt];omega
    subst h0;rw[if_neg (by omega),if_neg (by simp)]
    simp[sgn]
   ·have:x<0:=by rw[hx,sgn_lt];exact⟨rfl,h0⟩
    simp only[this,true_and,decide_true]
  have Hx:=Lib.hid hx;have Hsg:=Lib.hid hsg;have Hfl:=Lib.hid hfl;clear hx hsg hfl
  have Hsz0:szZ (sgn true (n / y))≤34359738368:=by unfold szZ;rw[sgn_natAbs];exact Nat.le_trans (sz_mono (Nat.div_le_self n y)) (by omega)
  have Hq0:FrZ (w.heap.size+4) w4 _ (sgn true (n / y)):=⟨_,rfl,(Hn.out.ext e4).mono (by omega)⟩
  by_cases hr0:n % y=0
  ·have hx0:x / (y:Int)=sgn true (n / y):=by rw[hx0',if_neg (by omega)]
   have Hx0:=Lib.hid hx0';clear hx0';go_wp2_with fail;rw[←hw4];have Hq:=Hq0
   have Hsz:szZ (sgn true (n / y))≤34359738370:=by omega
   have O10:(Value.slice ad (sz W (sgn true (n / y)).natAbs) cap).oneCell'=true:=rfl
   have B5:=b5;have S:=s1;refine wpP [⟨6,(w.heap.size+2),39,PP.val (.agg #[.bool (decide (sgn true (n / y)<0)),.slice ad (sz W (sgn true (n / y)).natAbs) cap])⟩,⟨7,(w.heap.size+3),39,PP.frZ (x - sgn true (n / y)*(y:Int))⟩] [PP.val (.agg #[.bool (decide (sgn true (n / y)<0)),.slice ad (sz W (sgn true (n / y)).natAbs) cap]),PP.val (.agg #[.bool true,s]),PP.val (.agg #[.bool (decide (sgn true (n / y)<0)),.slice ad (sz W (sgn true (n / y)).natAbs) cap]),PP.val (.agg #[.bool false,t]),PP.frZ (sgn true (n / y)*(y:Int)),PP.frZ (x - sgn true (n / y)*(y:Int)),PP.any,PP.any,PP.val (.int .i64 0)] [] [6,5,4,3,2,1,0] ?_ ?_ ?_ ?_ ?_
   ·intro x hx;simp only[List.mem_cons,List.not_mem_nil,or_false]at hx;rcases hx with rfl |rfl
    ·exact⟨by show(w.heap.size+2)<w4.heap.size;omega,rfl⟩
    ·exact⟨by show(w.heap.size+3)<w4.heap.size;omega,rfl⟩
   ·intro x hx;simp only[List.mem_cons,List.not_mem_nil,or_false]at hx;rcases hx with rfl |rfl<;>rfl
   ·intro x hx y hy h;simp only[List.mem_cons,List.not_mem_nil,or_false]at hx hy;rcases hx with rfl |rfl<;>rcases hy with rfl |rfl
    ·exact absurd rfl h
    ·show(w.heap.size+2)≠(w.heap.size+3);omega
    ·show(w.heap.size+3)≠(w.heap.size+2);omega
    ·exact absurd rfl h
   ·refine⟨?_,?_,?_,?_,?_,?_,?_,?_,?_,trivial⟩
    ·intro f w2 hG hp hl;have hE:Ext w4 w2:=hG;change OpGoal _ _ _ f w2 Ext _;exact og_load (P:=Tryz.prog) _ _ w3.heap.size _ _ _ rfl rfl rfl (B5.ext hE) Tryz.underlying39 rfl (by kernel_rfl) rfl
    ·intro f w2 hG hp hl;have hE:Ext w4 w2:=hG;change OpGoal _ _ _ f w2 Ext _;exact og_load (P:=Tryz.prog) _ _ w.heap.size _ _ _ rfl rfl rfl (B1.ext hE) Tryz.underlying39 rfl (by kernel_rfl) rfl
    ·intro f w2 hG hp hl;have hE:Ext w4 w2:=hG;change OpGoal _ _ _ f w2 Ext _;exact og_load (P:=Tryz.prog) _ _ w3.heap.size _ _ _ rfl rfl rfl (B5.ext hE) Tryz.underlying39 rfl (by kernel_rfl) rfl
    ·intro f w2 hG hp hl;have hE:Ext w4 w2:=hG;change OpGoal _ _ _ f w2 Ext _;exact og_load (P:=Tryz.prog) _ _ (w.heap.size+1) _ _ _ rfl rfl rfl (B2.ext hE) Tryz.underlying39 rfl (by kernel_rfl) rfl
    ·intro f w2 hG hp hl;have hE:Ext w4 w2:=hG;have hS:=hE.size;have q47:=tE hp 0 2 rfl rfl rfl;have q48:=tE hp 1 3 rfl rfl rfl;change OpGoal _ _ _ f w2 Ext _;refine oC #[f 2,f 3] Tryz.func180 rfl rfl ?_;rw[q47,q48];refine(zmul_calls _ _ (sgn true (n / y)) (y:Int) _ ((Hq.isZ (by rw[LIM_eq];omega)).ext hE) (hY.ext (E.trans hE)) (by rw[hszy];omega)).mono ?_;rintro e w' ⟨v',rfl,h1,h2⟩;exact⟨v',rfl,h2,h1.mono hS⟩
    ·intro f w2 hG hp hl;have hE:Ext w4 w2:=hG;have hS:=hE.size;have q46:=tE hp 0 1 rfl rfl rfl;have q49:=tellV hp 1 4 rfl rfl (fun _=>hE);change OpGoal _ _ _ f w2 Ext _;refine oC #[f 1,f 4] Tryz.func205 rfl rfl ?_;rw[q46];refine(zsub_calls _ _ x (sgn true (n / y)*(y:Int)) _ (hV.out.ext (E.trans hE)) (q49.isZ (by have:=szZ_mul (sgn true (n / y)) (y:Int);rw[LIM_eq];omega)) (by omega) (by have:=szZ_mul (sgn true (n / y)) (y:Int);omega)).mono ?_;rintro e w' ⟨v',rfl,h1,h2⟩;exact⟨v',rfl,h2,h1.mono hS⟩
    ·intro f w2 hG hp hl;have q45:=tE hp 0 0 rfl rfl rfl;intro hg0;change OpGoal _ _ _ f w2 (Chg _) _;exact og_store (P:=Tryz.prog) _ _ _ (w.heap.size+2) _ _ _ (PP.val _:PP _).p rfl rfl rfl q45 (show Bx 39 w2 _ _ from hg0.trans B3) (by kernel_rfl) rfl (all2 rfl O10) (fun w' h=>rfl)
    ·intro f w2 hG hp hl;have hS:w4.heap.size≤w2.heap.size:=hG.2.2.2.1;have q50:=tellV hp 0 5 rfl rfl (fun _=>by contradiction);intro hg0;change OpGoal _ _ _ f w2 (Chg _) _;obtain⟨s',hv,hn⟩:=q50;exact og_store (P:=Tryz.prog) _ _ _ (w.heap.size+3) _ _ _ (PP.frZ _:PP _).p rfl rfl rfl hv (show Bx 39 w2 _ _ from hg0.trans B4) (by kernel_rfl) rfl (all2 rfl hn.oneCell) (fun w' h=>⟨s',rfl,hn.chg h (by omega)⟩)
    ·intro f w2 hG hp hl;have hS:w4.heap.size≤w2.heap.size:=hG.2.2.2.1;simp only[OpGoal];go_simp;exact⟨_,rfl,Ext.refl _,rfl⟩
   ·intro f w2 hG hp;obtain⟨cs0,hbx0,hz0⟩:∃cs,Bx 39 w2 (w.heap.size+2) cs∧(PP.val (.agg #[.bool (decide (sgn true (n / y)<0)),.slice ad (sz W (sgn true (n / y)).natAbs) cap]):PP w4.heap.size).p (.agg cs) w2:=endS hp 6 (by decide);obtain⟨cs1,hbx1,hz1⟩:∃cs,Bx 39 w2 (w.heap.size+3) cs∧(PP.frZ (x - sgn true (n / y)*(y:Int)):PP w4.heap.size).p (.agg cs) w2:=endS hp 7 (by decide)
    have q6:f 8= .int .i64 0:=endV hp 8 (by decide) rfl (fun h=>by cases h)
    clear hp;have hz2:=hz1.mono (show w.heap.size≤_ by omega);obtain⟨s',hv,hn⟩:=hz1
    cases hv
    cases hz0
    go_wp2
    have hm:x % (y:Int)=x - sgn true (n / y)*(y:Int):=by rw[Int.emod_def,hx0,Int.mul_comm]
    refine ret_box3 4 5 6 39 39 (w.heap.size+2) (w.heap.size+3) 39 39 _ _ _ _ _ (by kernel_rfl) rfl rfl q6 hbx0 hbx1 Tryz.underlying39 rfl (by kernel_rfl) Tryz.underlying39 rfl (by kernel_rfl) rfl ?_;refine⟨_,_,rfl,?_,?_,E.stepS hG (by simp)⟩
    ·rw[hx0];exact(Hq.chgS hG (by simp)).mono (by omega)
    ·rw[hm];exact hz2
  ·have hx0:x / (y:Int)=sgn true (n / y) - 1:=by rw[hx0',if_pos (by omega)]
   have Hx0:=Lib.hid hx0';clear hx0';go_wp2_with fail;rw[←hw4];refine wpP [⟨3,w3.heap.size,39,PP.frZ (sgn true (n / y) - 1)⟩] [PP.val (.agg #[.bool (decide (sgn true (n / y)<0)),.slice ad (sz W (sgn true (n / y)).natAbs) cap]),PP.frZ 1,PP.frZ (sgn true (n / y) - 1),PP.any] [] [3,2,1,0] ?_ ?_ ?_ ?_ ?_
   ·intro x hx;simp only[List.mem_singleton]at hx;subst hx;exact⟨by show w3.heap.size<w4.heap.size;omega,rfl⟩
   ·intro x hx;simp only[List.mem_singleton]at hx;subst hx;rfl
   ·intro x hx y hy h;simp only[List.mem_singleton]at hx hy;subst hx hy;exact absurd rfl h
   ·refine⟨?_,?_,?_,?_,trivial⟩
    ·intro f w2 hG hp hl;have hE:Ext w4 w2:=hG;change OpGoal _ _ _ f w2 Ext _;exact og_load (P:=Tryz.prog) _ _ w3.heap.size _ _ _ rfl rfl rfl (b5.ext hE) Tryz.underlying39 rfl (by kernel_rfl) rfl
    ·intro f w2 hG hp hl;have hE:Ext w4 w2:=hG;have hS:=hE.size;change OpGoal _ _ _ f w2 Ext _;refine oC #[.int .i64 1] Tryz.func155 rfl rfl ?_;refine(zof_calls 1 _ (by omega) (by omega)).mono ?_;rintro e w' ⟨v',rfl,h1,h2⟩;exact⟨v',rfl,h2,h1.mono hS⟩
    ·intro f w2 hG hp hl;have hE:Ext w4 w2:=hG;have hS:=hE.size;have q42:=tE hp 0 0 rfl rfl rfl;have q43:=tellV hp 1 1 rfl rfl (fun _=>hE);change OpGoal _ _ _ f w2 Ext _;refine oC #[f 0,f 1] Tryz.func205 rfl rfl ?_;rw[q42];refine(zsub_calls _ _ (sgn true (n / y)) 1 _ ((Hq0.isZ (by rw[LIM_eq];omega)).ext hE) (q43.isZ (by rw[show szZ 1=1 from rfl,LIM_eq];omega)) (by omega) (by rw[show szZ 1=1 from rfl];omega)).mono ?_;rintro e w' ⟨v',rfl,h1,h2⟩;exact⟨v',rfl,h2,h1.mono hS⟩
    ·intro f w2 hG hp hl;have hE:Ext w4 w2:=hG;have hS:=hE.size;have q44:=tellV hp 0 2 rfl rfl (fun _=>hE);intro hg0;change OpGoal _ _ _ f w2 (Chg _) _;obtain⟨s',hv,hn⟩:=q44;exact og_store (P:=Tryz.prog) _ _ _ w3.heap.size _ _ _ (PP.frZ _:PP _).p rfl rfl rfl hv (show Bx 39 w2 _ _ from hg0.trans b5) (by kernel_rfl) rfl (all2 rfl hn.oneCell) (fun w' h=>⟨s',rfl,hn.chg h (by omega)⟩)
   ·intro f wz hG hp;obtain⟨cs0,hbx0,hz0⟩:∃cs,Bx 39 wz w3.heap.size cs∧(PP.frZ (sgn true (n / y) - 1):PP w4.heap.size).p (.agg cs) wz:=endS hp 3 (by decide);clear hp;have hz1:=hz0;obtain⟨s10,hv,hn10⟩:=hz0
    cases hv
    have O10:=hn10.oneCell;have E':=E.stepS hG (by simp only[List.map_cons,List.map_nil,List.mem_singleton,forall_eq];omega);have B1':=B1.chgS hG (by simp only[List.map_cons,List.map_nil,List.mem_singleton];omega);have B2':=B2.chgS hG (by simp only[List.map_cons,List.map_nil,List.mem_singleton];omega);have B3':=B3.chgS hG (by simp only[List.map_cons,List.map_nil,List.mem_singleton];omega);have B4':=B4.chgS hG (by simp only[List.map_cons,List.map_nil,List.mem_singleton];omega);have hsz5:=hG.2.2.2.1;have Hq:FrZ (w.heap.size+4) wz _ (sgn true (n / y) - 1):=hz1.mono (by omega)
    have Hsz:szZ (sgn true (n / y) - 1)≤34359738370:=by
     have:=szZ_add (sgn true (n / y)) (-1)
     rw[←Int.sub_eq_add_neg]at this;rw[show szZ (-1)=1 from rfl]at this
     omega
    clear E B1 B2 B3 B4;have E:=E';have B1:=B1';have B2:=B2';have B3:=B3';have B4:=B4';clear E' B1' B2' B3' B4';have B5:=hbx0;have S:=s1;go_wp2_with fail;refine wpP [⟨6,(w.heap.size+2),39,PP.val (.agg #[.bool (decide ((sgn true (n / y) - 1)<0)),s10])⟩,⟨7,(w.heap.size+3),39,PP.frZ (x - (sgn true (n / y) - 1)*(y:Int))⟩] [PP.val (.agg #[.bool (decide ((sgn true (n / y) - 1)<0)),s10]),PP.val (.agg #[.bool true,s]),PP.val (.agg #[.bool (decide ((sgn true (n / y) - 1)<0)),s10]),PP.val (.agg #[.bool false,t]),PP.frZ ((sgn true (n / y) - 1)*(y:Int)),PP.frZ (x - (sgn true (n / y) - 1)*(y:Int)),PP.any,PP.any,PP.val (.int .i64 0)] [] [6,5,4,3,2,1,0] ?_ ?_ ?_ ?_ ?_
    ·intro x hx;simp only[List.mem_cons,List.not_mem_nil,or_false]at hx;rcases hx with rfl |rfl
     ·exact⟨by show(w.heap.size+2)<wz.heap.size;omega,rfl⟩
     ·exact⟨by show(w.heap.size+3)<wz.heap.size;omega,rfl⟩
    ·intro x hx;simp only[List.mem_cons,List.not_mem_nil,or_false]at hx;rcases hx with rfl |rfl<;>rfl
    ·intro x hx y hy h;simp only[List.mem_cons,List.not_mem_nil,or_false]at hx hy;rcases hx with rfl |rfl<;>rcases hy with rfl |rfl
     ·exact absurd rfl h
     ·show(w.heap.size+2)≠(w.heap.size+3);omega
     ·show(w.heap.size+3)≠(w.heap.size+2);omega
     ·exact absurd rfl h
    ·refine⟨?_,?_,?_,?_,?_,?_,?_,?_,?_,trivial⟩
     ·intro f w2 hG hp hl;have hE:Ext wz w2:=hG;change OpGoal _ _ _ f w2 Ext _;exact og_load (P:=Tryz.prog) _ _ w3.heap.size _ _ _ rfl rfl rfl (B5.ext hE) Tryz.underlying39 rfl (by kernel_rfl) rfl
     ·intro f w2 hG hp hl;have hE:Ext wz w2:=hG;change OpGoal _ _ _ f w2 Ext _;exact og_load (P:=Tryz.prog) _ _ w.heap.size _ _ _ rfl rfl rfl (B1.ext hE) Tryz.underlying39 rfl (by kernel_rfl) rfl
     ·intro f w2 hG hp hl;have hE:Ext wz w2:=hG;change OpGoal _ _ _ f w2 Ext _;exact og_load (P:=Tryz.prog) _ _ w3.heap.size _ _ _ rfl rfl rfl (B5.ext hE) Tryz.underlying39 rfl (by kernel_rfl) rfl
     ·intro f w2 hG hp hl;have hE:Ext wz w2:=hG;change OpGoal _ _ _ f w2 Ext _;exact og_load (P:=Tryz.prog) _ _ (w.heap.size+1) _ _ _ rfl rfl rfl (B2.ext hE) Tryz.underlying39 rfl (by kernel_rfl) rfl
     ·intro f w2 hG hp hl;have hE:Ext wz w2:=hG;have hS:=hE.size;have q47:=tE hp 0 2 rfl rfl rfl;have q48:=tE hp 1 3 rfl rfl rfl;change OpGoal _ _ _ f w2 Ext _;refine oC #[f 2,f 3] Tryz.func180 rfl rfl ?_;rw[q47,q48];refine(zmul_calls _ _ ((sgn true (n / y) - 1)) (y:Int) _ ((Hq.isZ (by rw[LIM_eq];omega)).ext hE) (hY.ext (E.trans hE)) (by rw[hszy];omega)).mono ?_;rintro e w' ⟨v',rfl,h1,h2⟩;exact⟨v',rfl,h2,h1.mono hS⟩
     ·intro f w2 hG hp hl;have hE:Ext wz w2:=hG;have hS:=hE.size;have q46:=tE hp 0 1 rfl rfl rfl;have q49:=tellV hp 1 4 rfl rfl (fun _=>hE);change OpGoal _ _ _ f w2 Ext _;refine oC #[f 1,f 4] Tryz.func205 rfl rfl ?_;rw[q46];refine(zsub_calls _ _ x ((sgn true (n / y) - 1)*(y:Int)) _ (hV.out.ext (E.trans hE)) (q49.isZ (by have:=szZ_mul ((sgn true (n / y) - 1)) (y:Int);rw[LIM_eq];omega)) (by omega) (by have:=szZ_mul ((sgn true (n / y) - 1)) (y:Int);omega)).mono ?_;rintro e w' ⟨v',rfl,h1,h2⟩;exact⟨v',rfl,h2,h1.mono hS⟩
     ·intro f w2 hG hp hl;have q45:=tE hp 0 0 rfl rfl rfl;intro hg0;change OpGoal _ _ _ f w2 (Chg _) _;exact og_store (P:=Tryz.prog) _ _ _ (w.heap.size+2) _ _ _ (PP.val _:PP _).p rfl rfl rfl q45 (show Bx 39 w2 _ _ from hg0.trans B3) (by kernel_rfl) rfl (all2 rfl O10) (fun w' h=>rfl)
     ·intro f w2 hG hp hl;have hS:wz.heap.size≤w2.heap.size:=hG.2.2.2.1;have q50:=tellV hp 0 5 rfl rfl (fun _=>by contradiction);intro hg0;change OpGoal _ _ _ f w2 (Chg _) _;obtain⟨s',hv,hn⟩:=q50;exact og_store (P:=Tryz.prog) _ _ _ (w.heap.size+3) _ _ _ (PP.frZ _:PP _).p rfl rfl rfl hv (show Bx 39 w2 _ _ from hg0.trans B4) (by kernel_rfl) rfl (all2 rfl hn.oneCell) (fun w' h=>⟨s',rfl,hn.chg h (by omega)⟩)
     ·intro f w2 hG hp hl;have hS:wz.heap.size≤w2.heap.size:=hG.2.2.2.1;simp only[OpGoal];go_simp;exact⟨_,rfl,Ext.refl _,rfl⟩
    ·intro f w2 hG hp;obtain⟨cs0,hbx0,hz0⟩:∃cs,Bx 39 w2 (w.heap.size+2) cs∧(PP.val (.agg #[.bool (decide ((sgn true (n / y) - 1)<0)),s10]):PP wz.heap.size).p (.agg cs) w2:=endS hp 6 (by decide);obtain⟨cs1,hbx1,hz1⟩:∃cs,Bx 39 w2 (w.heap.size+3) cs∧(PP.frZ (x - (sgn true (n / y) - 1)*(y:Int)):PP wz.heap.size).p (.agg cs) w2:=endS hp 7 (by decide)
     have q6:f 8= .int .i64 0:=endV hp 8 (by decide) rfl (fun h=>by cases h)
     clear hp;have hz2:=hz1.mono (show w.heap.size≤_ by omega);obtain⟨s',hv,hn⟩:=hz1
     cases hv
     cases hz0
     go_wp2
     have hm:x % (y:Int)=x - (sgn true (n / y) - 1)*(y:Int):=by rw[Int.emod_def,hx0,Int.mul_comm]
     refine ret_box3 4 5 6 39 39 (w.heap.size+2) (w.heap.size+3) 39 39 _ _ _ _ _ (by kernel_rfl) rfl rfl q6 hbx0 hbx1 Tryz.underlying39 rfl (by kernel_rfl) Tryz.underlying39 rfl (by kernel_rfl) rfl ?_;refine⟨_,_,rfl,?_,?_,E.stepS hG (by simp)⟩
     ·rw[hx0];exact(Hq.chgS hG (by simp)).mono (by omega)
     ·rw[hm];exact hz2
end Go.Proofs.YtbmnlaepfckmkaaGreat
