/-
 zint: of a word, comparison, sums, differences.
-/
import Derived.Test.YthoibjnkhkjnjaaGreatInaZ
namespace Go.Proofs.YthoibjnkhkjnjaaGreat
set_option maxRecDepth 100000
set_option maxHeartbeats 1000000
open Go.RowKit
set_option linter.unusedVariables false
set_option linter.unusedSimpArgs false
theorem isN_one{k:IntKind}{B:Nat}(w:World)(c:Nat)(e:TypeId)(hc:c<B):IsN k B (w.alloc (.cells #[.int k (c:Int)] e)) (.slice (some ⟨w.heap.size,0,none⟩) 1 1) c:=
 ⟨[c],⟨_,1,rfl,Nat.le_refl _,by omega,Rd.new1 w k c e⟩,by rw[LIM_eq];simp,fun y hy=>(by simpa using hy:y=c)▸hc,by simp[val]⟩
theorem sign_cases(x:Int):(x.sign= -1∧x<0)∨(x.sign=0∧x=0)∨(x.sign=1∧0<x):=by
 rcases(show x<0∨x=0∨0<x by omega)with h |h |h
 ·exact .inl ⟨Int.sign_eq_neg_one_of_neg h,h⟩
 ·exact .inr (.inl ⟨by rw[h];rfl,h⟩)
 ·exact .inr (.inr ⟨Int.sign_eq_one_of_pos h,h⟩)
theorem cmpN_sign(n m:Nat):cmpN n m=((n:Int) - m).sign:=by
 have:=sign_cases ((n:Int) - m)
 unfold cmpN
 split<;>(try split)<;>omega
theorem cmp_neg{b c:Bool}{n m:Nat}{x y:Int}(hx:x=sgn b n)(hy:y=sgn c m)(h:x.sign=y.sign)(h2:y<0):cmpN m n=(x - y).sign:=by
 have cx:=sign_cases x;have cy:=sign_cases y;have hb:=((sgn_lt b n).1 (by omega)).1;have hc:=((sgn_lt c m).1 (by omega)).1;subst hb hc;rw[cmpN_sign,hx,hy]
 congr 1
 simp only[sgn,if_true]
 omega
theorem cmp_pos{b c:Bool}{n m:Nat}{x y:Int}(hx:x=sgn b n)(hy:y=sgn c m)(h:x.sign=y.sign)(h2:0≤y):cmpN n m=(x - y).sign:=by
 have cx:=sign_cases x;have cy:=sign_cases y
 have hb:sgn b n=n:=by
  cases b
  ·rfl
  ·simp only[sgn,if_true]at*;omega
 have hc:sgn c m=m:=by
  cases c
  ·rfl
  ·simp only[sgn,if_true]at*;omega
 rw[cmpN_sign,hx,hy,hb,hc]
theorem zcmp_calls(v u:Value)(x y:Int)(w:World)(hv:IsZ w v x)(hu:IsZ w u y):
  Calls Tryz.prog 48 #[v,u] w fun e w'=>e= .returned (.int .i64 (x - y).sign)∧Ext w w':=by
 have hV:=Lib.hid hv;have hU:=Lib.hid hu;obtain⟨b,s,n,rfl,hs,hx⟩:=hv;obtain⟨c,t,m,rfl,ht,hy⟩:=hu
 go_enter Tryz.func48,Tryz.ntmps48
 go_wp2_with fail;obtain⟨w1,hw1,e1,b1,b2,s1⟩:=alloc2 w #[.bool b,s] #[.bool c,t] 34 34;rw[←hw1];clear hw1;refine wpQ [PP.val (.agg #[.bool b,s]),PP.val (.int .i64 x.sign),PP.val (.agg #[.bool c,t]),PP.val (.int .i64 y.sign),PP.val (.int .i64 x.sign),PP.val (.int .i64 y.sign)] [] [0,1,2,3,4,5] ?_ ?_
 ·refine⟨?_,?_,?_,?_,?_,?_,trivial⟩
  ·intro f w2 hG hp hl;have hE:Ext w1 w2:=hG;change OpGoal _ _ _ f w2 Ext _;exact og_load (P:=Tryz.prog) _ _ w.heap.size _ _ _ rfl rfl rfl (b1.ext hE) Tryz.underlying34 rfl (by kernel_rfl) rfl
  ·intro f w2 hG hp hl;have hE:Ext w1 w2:=hG;have q7:=tE hp 0 0 rfl rfl rfl;change OpGoal _ _ _ f w2 Ext _;refine oC #[f 0] Tryz.func69 rfl rfl ?_;rw[q7];refine(zsign_calls _ x _ (hV.out.ext (e1.trans hE))).mono ?_;rintro e w' ⟨rfl,h2⟩;exact⟨_,rfl,h2,rfl⟩
  ·intro f w2 hG hp hl;have hE:Ext w1 w2:=hG;change OpGoal _ _ _ f w2 Ext _;exact og_load (P:=Tryz.prog) _ _ (w.heap.size+1) _ _ _ rfl rfl rfl (b2.ext hE) Tryz.underlying34 rfl (by kernel_rfl) rfl
  ·intro f w2 hG hp hl;have hE:Ext w1 w2:=hG;have q9:=tE hp 0 2 rfl rfl rfl;change OpGoal _ _ _ f w2 Ext _;refine oC #[f 2] Tryz.func69 rfl rfl ?_;rw[q9];refine(zsign_calls _ y _ (hU.out.ext (e1.trans hE))).mono ?_;rintro e w' ⟨rfl,h2⟩;exact⟨_,rfl,h2,rfl⟩
  ·intro f w2 hG hp hl;have hE:Ext w1 w2:=hG;have q8:=tellV hp 0 1 rfl rfl (fun _=>hE);exact⟨_,rfl,Ext.refl _,q8⟩
  ·intro f w2 hG hp hl;have hE:Ext w1 w2:=hG;have q10:=tellV hp 0 3 rfl rfl (fun _=>hE);exact⟨_,rfl,Ext.refl _,q10⟩
 ·intro f w2 hG hp;have hE:Ext w1 w2:=ChgS.nil hG
  have q5:f 4= .int .i64 x.sign:=endV hp 4 (by decide) rfl (fun h=>by cases h)
  have q6:f 5= .int .i64 y.sign:=endV hp 5 (by decide) rfl (fun h=>by cases h)
  clear hp;have hcx:=(b1.ext hE).cell 1;have hcy:=(b2.ext hE).cell 1;have Hx:=Lib.hid hx;have Hy:=Lib.hid hy;have cx:=Lib.hid (sign_cases x);have cy:=Lib.hid (sign_cases y);have cz:=Lib.hid (sign_cases (x - y));clear hx hy;go_wp2_with fail
  ·refine(cmp_calls _ _ _ _ _ (ht.ext (e1.trans hE)) (hs.ext (e1.trans hE))).mono ?_;rintro e w3 ⟨rfl,hext⟩;go_wp2;go_ret;exact⟨ret_int (cmp_neg Hx.out Hy.out ‹_› ‹_›),(e1.trans hE).trans hext⟩
  ·refine(cmp_calls _ _ _ _ _ (hs.ext (e1.trans hE)) (ht.ext (e1.trans hE))).mono ?_;rintro e w3 ⟨rfl,hext⟩;go_wp2;go_ret;exact⟨ret_int (cmp_pos Hx.out Hy.out ‹_› ‹_›),(e1.trans hE).trans hext⟩
  ·go_ret;have cx:=cx.out;have cy:=cy.out;have cz:=cz.out
   rename_i hlt
   have:=hlt.2
   exact⟨ret_int (by omega),e1.trans hE⟩
  ·go_ret;have cx:=cx.out;have cy:=cy.out;have cz:=cz.out
   rename_i h1 h2 h3
   have h4:y.sign≤x.sign:=by rcases h2 with h |h;(rw[h3]at h;cases h);exact h
   exact⟨ret_int (by omega),e1.trans hE⟩
theorem szZ_mul(x y:Int):szZ (x*y)≤szZ x+szZ y:=by
 unfold szZ;rw[Int.natAbs_mul];exact sz_mul _ _
end Go.Proofs.YthoibjnkhkjnjaaGreat
