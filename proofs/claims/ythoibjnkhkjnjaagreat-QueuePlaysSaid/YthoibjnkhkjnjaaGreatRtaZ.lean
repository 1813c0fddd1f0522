/-
 The document's whole numbers, walked (I).
-/
import Derived.Test.YthoibjnkhkjnjaaGreatRehZ
namespace Go.Proofs.YthoibjnkhkjnjaaGreat
set_option maxRecDepth 100000
set_option maxHeartbeats 1000000
open Go.RowKit
set_option linter.unusedVariables false
set_option linter.unusedSimpArgs false
def CZ(w:World)(v:Value)(z:Int):Prop:=∃s,v= .agg #[.bool (decide (z<0)),s]∧IsC .i64 TK w s z.natAbs
def FrZd(B0:Nat)(w:World)(v:Value)(z:Int):Prop:=∃s,v= .agg #[.bool (decide (z<0)),s]∧FrN 3 .i64 TK B0 w s z.natAbs
def szT(z:Int):Nat:=sz TK z.natAbs
theorem CZ.ext{w w':World}{v:Value}{z:Int}(h:CZ w v z)(he:Ext w w'):CZ w' v z:=by
 obtain⟨s,h1,h2⟩:=h;exact⟨s,h1,h2.ext he⟩
theorem FrZd.ext{B0:Nat}{w w':World}{v:Value}{z:Int}(h:FrZd B0 w v z)(he:Ext w w'):FrZd B0 w' v z:=by
 obtain⟨s,h1,h2⟩:=h;exact⟨s,h1,h2.ext he⟩
theorem FrZd.chg{B0 g:Nat}{w w':World}{v:Value}{z:Int}(h:FrZd B0 w v z)(he:Chg g w w')(hg:g<B0):FrZd B0 w' v z:=by
 obtain⟨s,h1,h2⟩:=h;exact⟨s,h1,h2.chg he hg⟩
theorem FrZd.mono{B0 B1:Nat}{w:World}{v:Value}{z:Int}(h:FrZd B0 w v z)(hB:B1≤B0):FrZd B1 w v z:=by
 obtain⟨s,h1,h2⟩:=h;exact⟨s,h1,h2.mono hB⟩
theorem FrZd.cz{B0:Nat}{w:World}{v:Value}{z:Int}(h:FrZd B0 w v z):CZ w v z:=by
 obtain⟨s,h1,h2⟩:=h;exact⟨s,h1,h2.isC⟩
theorem IsC.slice{k:IntKind}{B n:Nat}{w:World}{v:Value}(h:IsC k B w v n):∃ad cap,v= .slice ad (sz B n) cap:=by
 obtain⟨ad,cap,rfl,_⟩:=h;exact⟨ad,cap,rfl⟩
def PP.frZd{S:Nat}(z:Int):PP S:=⟨false,fun u w=>FrZd S w u z,fun _ _ _ h hp=>hp.ext h,fun _ _ hg _ _ _ h hp=>hp.chg h hg⟩
theorem FrL.slice{e:TypeId}{k:IntKind}{B0:Nat}{w:World}{v:Value}{xs:List Nat}(h:FrL e k B0 w v xs):∃ad cap,v= .slice ad xs.length cap:=by
 obtain⟨ad,cap,rfl,_⟩:=h;exact⟨ad,cap,rfl⟩
def PP.frLw{S:Nat}(xs:List Nat):PP S:=⟨false,fun u w=>FrL 61 .u64 S w u xs,fun _ _ _ h hp=>hp.ext h,fun _ _ hg _ _ _ h hp=>hp.chg h hg⟩
def FrI(B0:Nat)(w:World)(v:Value)(b:Bool)(xs:List Nat):Prop:=∃s,v= .agg #[.bool b,s]∧FrL 61 .u64 B0 w s xs
def PP.frI{S:Nat}(b:Bool)(xs:List Nat):PP S:=⟨false,fun u w=>FrI S w u b xs,fun _ _ _ h hp=>(let ⟨v,h1,h2⟩:=hp;⟨v,h1,h2.ext h⟩),fun _ _ hg _ _ _ h hp=>(let ⟨v,h1,h2⟩:=hp;⟨v,h1,h2.chg h hg⟩)⟩
theorem form_calls2(b:Bool)(s:Value)(n:Nat)(w:World)(hs:IsN .i64 TK w s n):
  Calls Tryz.prog 68 #[.bool b,s] w fun e w'=>∃v',e= .returned v'∧FrZd w.heap.size w' v' (sgn b n)∧Ext w w':=by
 go_enter Tryz.func68,Tryz.ntmps68
 go_wp2_with fail;obtain⟨w1,hw1,e1,b1,s1⟩:=alloc1 w #[.bool false,.slice none 0 0] 64;rw[←hw1];refine(rtrim_calls s n _ (hs.ext e1)).mono ?_;rintro e w2 ⟨va,rfl,ha,hext⟩;have hb:=b1.ext hext;have hn0:= @szT_zero n;have Ha:=Lib.hid ha;obtain⟨ad,cap,rfl,hl,hc,ho⟩:=ha;have hc0:=hb.cell 0;have hc1:=hb.cell 1;have hf0:=hb.free 0;have hf1:=hb.free 1;go_wp2_with fail
 all_goals
  refine ret_box 4 64 w.heap.size 64 _ _ (by kernel_rfl) rfl ((hb.set 0 _).set 1 _) Tryz.underlying64 rfl (by kernel_rfl) rfl ?_;refine⟨_,rfl,⟨.slice ad (dg TK n).length cap,?_,?_⟩,(e1.trans hext).step (Chg.trans (Chg.setCell _ w.heap.size 0 _) (Chg.setCell _ w.heap.size 1 _)) (Nat.le_refl _)⟩
  rotate_left
  ·rw[sgn_natAbs];exact(Ha.out.chg (Chg.trans (Chg.setCell _ w.heap.size 0 _) (Chg.setCell _ w.heap.size 1 _)) (by omega)).mono (by omega)
 all_goals
  have hd:(0<(dg TK n).length)↔0<n:=by unfold sz at hn0;omega
  simp_all[sgn_lt]
theorem zof2_calls(v:Value)(z:Int)(w:World)(hv:IsZ w v z)(hsz:szT z≤68719476736):
  Calls Tryz.prog 46 #[v] w fun e w'=>∃v',e= .returned v'∧FrZd w.heap.size w' v' z∧Ext w w':=by
 obtain⟨b,s,n,rfl,hs,hz⟩:=hv
 have hsn:sz TK n≤68719476736:=by rw[hz]at hsz;unfold szT at hsz;rwa [sgn_natAbs]at hsz
 go_enter Tryz.func46,Tryz.ntmps46
 go_wp2_with fail;obtain⟨w1,hw1,e1,b1,b2,s1⟩:=alloc2 w #[.bool b,s] #[.bool false,.slice none 0 0] 34 64;rw[←hw1];clear hw1;refine wpP [⟨6,(w.heap.size+1),64,PP.frZd (sgn b n)⟩] [PP.val (.pointer (some ⟨w.heap.size,0,none⟩)),PP.val (.bool b),PP.val (.pointer (some ⟨w.heap.size,1,none⟩)),PP.val (s),PP.frN 3 .i64 TK n,PP.frZd (sgn b n),PP.any] [] [6,5,4,3,2,1,0] ?_ ?_ ?_ ?_ ?_
 ·intro x hx;simp only[List.mem_singleton]at hx;subst hx;exact⟨by show(w.heap.size+1)<w1.heap.size;omega,rfl⟩
 ·intro x hx;simp only[List.mem_singleton]at hx;subst hx;rfl
 ·intro x hx y hy h;simp only[List.mem_singleton]at hx hy;subst hx hy;exact absurd rfl h
 ·refine⟨?_,?_,?_,?_,?_,?_,?_,trivial⟩
  ·intro f w2 hG hp hl;simp only[OpGoal];go_simp;exact⟨_,rfl,Ext.refl _,rfl⟩
  ·intro f w2 hG hp hl;have hE:Ext w1 w2:=hG;have q3:=tE hp 0 0 rfl rfl rfl;have hcell:=(b1.ext hE).cell 0;simp only[OpGoal];go_simp;exact⟨_,rfl,Ext.refl _,rfl⟩
  ·intro f w2 hG hp hl;simp only[OpGoal];go_simp;exact⟨_,rfl,Ext.refl _,rfl⟩
  ·intro f w2 hG hp hl;have hE:Ext w1 w2:=hG;have q5:=tE hp 0 2 rfl rfl rfl;have hcell:=(b1.ext hE).cell 1;simp only[OpGoal];go_simp;exact⟨_,rfl,Ext.refl _,rfl⟩
  ·intro f w2 hG hp hl;have hE:Ext w1 w2:=hG;have hS:=hE.size;have q6:=tE hp 0 3 rfl rfl rfl;change OpGoal _ _ _ f w2 Ext _;refine oC #[f 3] Tryz.func44 rfl rfl ?_;rw[q6];refine(rof01_calls _ n _ (hs.ext (e1.trans hE)) hsn).mono ?_;rintro e w' ⟨v',rfl,h1,h2⟩;exact⟨v',rfl,h2,h1.mono hS⟩
  ·intro f w2 hG hp hl;have hE:Ext w1 w2:=hG;have hS:=hE.size;have q4:=tE hp 0 1 rfl rfl rfl;have q7:=tellV hp 1 4 rfl rfl (fun _=>hE);change OpGoal _ _ _ f w2 Ext _;refine oC #[f 1,f 4] Tryz.func68 rfl rfl ?_;rw[q4];refine(form_calls2 _ _ _ _ (q7.isC.isN TK_gt (by rw[LIM_eq];omega))).mono ?_;rintro e w' ⟨v',rfl,h1,h2⟩;exact⟨v',rfl,h2,h1.mono hS⟩
  ·intro f w2 hG hp hl;have hE:Ext w1 w2:=hG;have hS:=hE.size;have q8:=tellV hp 0 5 rfl rfl (fun _=>hE);intro hg0;change OpGoal _ _ _ f w2 (Chg _) _;obtain⟨s',hv,hn⟩:=q8;exact og_store (P:=Tryz.prog) _ _ _ (w.heap.size+1) _ _ _ (PP.frZd _:PP _).p rfl rfl rfl hv (show Bx 64 w2 _ _ from hg0.trans b2) (by kernel_rfl) rfl (all2 rfl hn.oneCell) (fun w' h=>⟨s',rfl,hn.chg h (by omega)⟩)
 ·intro f w2 hG hp;obtain⟨cs0,hbx0,hz0⟩:∃cs,Bx 64 w2 (w.heap.size+1) cs∧(PP.frZd (sgn b n):PP w1.heap.size).p (.agg cs) w2:=endS hp 6 (by decide);clear hp;have hz1:=hz0.mono (show w.heap.size≤_ by omega);obtain⟨s',hv,hn⟩:=hz0
  cases hv
  go_wp2;refine ret_box 2 64 (w.heap.size+1) 64 _ _ (by kernel_rfl) rfl hbx0 Tryz.underlying64 rfl (by kernel_rfl) rfl ?_;rw[hz];exact⟨_,rfl,hz1,e1.stepS hG (by simp)⟩
theorem zsmall2_calls(z:Int)(w:World)(h0: -9223372036854775808≤z)(h1:z≤9223372036854775807):
  Calls Tryz.prog 54 #[.int .i64 z] w fun e w'=>∃v',e= .returned v'∧FrZd w.heap.size w' v' z∧Ext w w':=by
 go_enter Tryz.func54,Tryz.ntmps54
 rcases(show 0≤z∨z<0 by omega)with h |h
 ·have hn:=Lib.hid (show z=(z.natAbs:Int)by omega)
  have hz:sgn false z.natAbs=z:=by simp only[sgn,if_false,Bool.false_eq_true];omega
  have hb:z.natAbs≤9223372036854775807:=by omega
  go_wp2_with fail;obtain⟨w1,hw1,e1,b1,s1⟩:=alloc1 w #[.bool false,.slice none 0 0] 64;rw[←hw1];rw[show (#[Value.int .i64 z])=#[.int .i64 (z.natAbs:Int)]by rw[←hn.out]];refine(rsmall_calls z.natAbs _ hb).mono ?_;rintro e w2 ⟨v1,rfl,hs1,e2⟩;go_wp2_with fail;refine(form_calls2 false _ z.natAbs _ (hs1.isC.isN TK_gt (by have:=dg_small_len hb;unfold sz;rw[LIM_eq];omega))).mono ?_;rw[hz];rintro e w3 ⟨v',rfl,hz,hext⟩;have es2:=e2.size;have e3:=(e1.trans e2).trans hext;obtain⟨s',rfl,hn⟩:=hz;obtain⟨ad,cap,rfl⟩:=hn.slice;have Hn:=Lib.hid hn;clear hn;have hb:=(b1.ext e2).ext hext;have hc0:=hb.cell 0;have hc1:=hb.cell 1;have hf0:=hb.free 0;have hf1:=hb.free 1;go_wp2;refine ret_box 2 64 w.heap.size 64 _ _ (by kernel_rfl) rfl ((hb.set 0 _).set 1 _) Tryz.underlying64 rfl (by kernel_rfl) rfl ?_;exact⟨_,rfl,⟨_,(by first |rfl |simp_all),(Hn.out.chg (Chg.trans (Chg.setCell _ w.heap.size 0 _) (Chg.setCell _ w.heap.size 1 _)) (by omega)).mono (by omega)⟩,(e3).step (Chg.trans (Chg.setCell _ w.heap.size 0 _) (Chg.setCell _ w.heap.size 1 _)) (by omega)⟩
 ·obtain⟨m,hm⟩:∃m:Nat, -(z+1)=(m:Int):=⟨(-(z+1)).toNat,by omega⟩
  have hz:sgn true (m+1)=z:=by simp only[sgn,if_true];omega
  have hb:m≤9223372036854775807:=by omega
  have hs5:=dg_small_len hb
  have hs6:sz TK (m+1)≤5:=by
   refine dg_len_le TK_gt ?_;rw[TK_eq]
   have:(10000:Nat)^5=100000000000000000000:=by decide
   omega
  have hge:¬0≤z:=by omega
  go_wp2_with fail;obtain⟨w1,hw1,e1,b1,s1⟩:=alloc1 w #[.bool false,.slice none 0 0] 64;rw[←hw1];refine(rsmall_calls m _ hb).mono ?_;rintro e w2 ⟨v1,rfl,hs1,e2⟩;go_wp2_with fail;have e3:=(Ext.refl w2).alloc (.cells #[.int .i64 1] 3);have hone:=isN_one (k:= .i64) (B:=TK) w2 1 3 (by rw[TK_eq];omega);refine(radd01_calls _ _ m 1 _ ((hs1.ext e3).isC.isN TK_gt (by unfold sz;rw[LIM_eq];omega)) hone (by unfold sz;omega) (by rw[show sz TK 1=1 from rfl];omega)).mono ?_;rintro e w4 ⟨v2,rfl,hs2,e4⟩;go_wp2_with fail;refine(form_calls2 true _ (m+1) _ (hs2.isC.isN TK_gt (by rw[LIM_eq];omega))).mono ?_;rw[hz];rintro e w5 ⟨v',rfl,hz,hext⟩;have es2:=e2.size;have es4:=(e3.trans e4).size;have e6:=((e1.trans e2).trans (e3.trans e4)).trans hext;obtain⟨s',rfl,hn⟩:=hz;obtain⟨ad,cap,rfl⟩:=hn.slice;have Hn:=Lib.hid hn;clear hn;have hb:=(b1.ext (e2.trans (e3.trans e4))).ext hext;have hc0:=hb.cell 0;have hc1:=hb.cell 1;have hf0:=hb.free 0;have hf1:=hb.free 1;go_wp2;refine ret_box 2 64 w.heap.size 64 _ _ (by kernel_rfl) rfl ((hb.set 0 _).set 1 _) Tryz.underlying64 rfl (by kernel_rfl) rfl ?_;exact⟨_,rfl,⟨_,(by first |rfl |simp_all),(Hn.out.chg (Chg.trans (Chg.setCell _ w.heap.size 0 _) (Chg.setCell _ w.heap.size 1 _)) (by omega)).mono (by omega)⟩,(e6).step (Chg.trans (Chg.setCell _ w.heap.size 0 _) (Chg.setCell _ w.heap.size 1 _)) (by omega)⟩
theorem zsign2_calls(v:Value)(z:Int)(w:World)(hv:CZ w v z):
  Calls Tryz.prog 83 #[v] w fun e w'=>e= .returned (.int .i64 z.sign)∧Ext w w':=by
 obtain⟨s,rfl,hs⟩:=hv;obtain⟨ad,cap,rfl⟩:=hs.slice;have hz:= @szT_zero z.natAbs;have Cz:=Lib.hid (sign_cases z)
 have hz2:sz TK z.natAbs=0↔z=0:=by rw[hz];omega
 clear hz
 go_enter Tryz.func83,Tryz.ntmps83
 obtain⟨w1,hw1,e1,b1,s1⟩:=alloc1 w #[.bool (decide (z<0)),.slice ad (sz TK z.natAbs) cap] 64;have hc0:=b1.cell 0;have hc1:=b1.cell 1;rw[hw1]at hc0 hc1
 rcases(show z=0∨z<0∨0<z by omega)with h |h |h
 ·have h0:sz TK z.natAbs=0:=hz2.2 h
  subst h;rw[show (0:Int).natAbs=0 from rfl]at*;go_wp2;go_ret;exact⟨rfl,(Ext.refl w).alloc _⟩
 ·have h0:¬sz TK z.natAbs=0:=fun e=>by have:=hz2.1 e;omega
  clear hz2;go_wp2;go_ret;exact⟨by rw[Int.sign_eq_neg_one_of_neg h];rfl,(Ext.refl w).alloc _⟩
 ·have h0:¬sz TK z.natAbs=0:=fun e=>by have:=hz2.1 e;omega
  have h1:¬z<0:=by omega
  clear hz2;go_wp2;go_ret;exact⟨by rw[Int.sign_eq_one_of_pos h];rfl,(Ext.refl w).alloc _⟩
theorem zneg2_calls(v:Value)(z:Int)(w:World)(hv:CZ w v z)(hsz:szT z≤68719476736):
  Calls Tryz.prog 108 #[v] w fun e w'=>∃v',e= .returned v'∧FrZd w.heap.size w' v' (-z)∧Ext w w':=by
 obtain⟨s,rfl,hs⟩:=hv
 have hng:sgn (!decide (z<0)) z.natAbs= -z:=by rw[sgn_not,sgn_self]
 unfold szT at hsz
 go_enter Tryz.func108,Tryz.ntmps108
 obtain⟨w1,hw1,e1,b1,b2,s1⟩:=alloc2 w #[.bool (decide (z<0)),s] #[.bool false,.slice none 0 0] 64 64;have hc0:=b1.cell 0;have hc1:=b1.cell 1;rw[hw1]at hc0 hc1;go_wp2_with fail;rw[←hw1];clear hc0 hc1;refine(form_calls2 (!decide (z<0)) s z.natAbs _ ((hs.isN TK_gt (by rw[LIM_eq];omega)).ext e1)).mono ?_;rw[hng];rintro e w2 ⟨v',rfl,hz,hext⟩;obtain⟨s',rfl,hn⟩:=hz;obtain⟨ad,cap,rfl⟩:=hn.slice;have Hn:=Lib.hid hn;clear hn;have hb:=b2.ext hext;have hc0:=hb.cell 0;have hc1:=hb.cell 1;have hf0:=hb.free 0;have hf1:=hb.free 1;go_wp2;refine ret_box 2 64 (w.heap.size+1) 64 _ _ (by kernel_rfl) rfl ((hb.set 0 _).set 1 _) Tryz.underlying64 rfl (by kernel_rfl) rfl ?_;exact⟨_,rfl,⟨_,(by first |rfl |simp_all),(Hn.out.chg (Chg.trans (Chg.setCell _ (w.heap.size+1) 0 _) (Chg.setCell _ (w.heap.size+1) 1 _)) (by omega)).mono (by omega)⟩,(e1.trans hext).step (Chg.trans (Chg.setCell _ (w.heap.size+1) 0 _) (Chg.setCell _ (w.heap.size+1) 1 _)) (by omega)⟩
end Go.Proofs.YthoibjnkhkjnjaaGreat
