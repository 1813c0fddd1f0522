/-
 Whole numbers: what a value tells, and zint's functions, walked.
-/
import Derived.Test.YthoibjnkhkjnjaaGreatBasZ
import Derived.Test.YthoibjnkhkjnjaaGreatDiiZ
namespace Go.Proofs.YthoibjnkhkjnjaaGreat
set_option maxRecDepth 100000
set_option maxHeartbeats 1000000
open Go.RowKit
set_option linter.unusedVariables false
set_option linter.unusedSimpArgs false
def sgn(b:Bool)(n:Nat):Int:=if b then -(n:Int)else n
def IsZ(w:World)(v:Value)(z:Int):Prop:=∃b s n,v= .agg #[.bool b,s]∧IsN .u64 W w s n∧z=sgn b n
def FrZ(B0:Nat)(w:World)(v:Value)(z:Int):Prop:=∃s,v= .agg #[.bool (decide (z<0)),s]∧FrN 61 .u64 W B0 w s z.natAbs
def szZ(z:Int):Nat:=sz W z.natAbs
theorem sz_mul(n m:Nat):sz W (n*m)≤sz W n+sz W m:=dg_len_mul W_gt n m
theorem sz_mono{n m:Nat}(h:n≤m):sz W n≤sz W m:=dg_len_mono W_gt h
theorem sgn_mul(b c:Bool)(n m:Nat):sgn (b !=c) (n*m)=sgn b n*sgn c m:=by
 cases b<;>cases c<;>simp [sgn,Int.neg_mul,Int.mul_neg]
theorem sgn_not(b:Bool)(n:Nat):sgn (!b) n= -sgn b n:=by cases b<;>simp [sgn]
theorem sgn_sign(b:Bool)(n:Nat):(sgn b n).sign=if n=0 then 0 else if b then -1 else 1:=by
 cases b<;>by_cases h:n=0
 ·simp[sgn,h]
 ·simp only[sgn,h,if_false,Bool.false_eq_true];exact Int.sign_eq_one_of_pos (by omega)
 ·simp[sgn,h]
 ·simp only[sgn,h,if_false,if_true];exact Int.sign_eq_neg_one_of_neg (by omega)
theorem sgn_natAbs(b:Bool)(n:Nat):(sgn b n).natAbs=n:=by unfold sgn;cases b<;>simp
theorem sgn_self(z:Int):sgn (decide (z<0)) z.natAbs=z:=by unfold sgn;split<;>simp_all<;>omega
theorem sgn_lt(b:Bool)(n:Nat):sgn b n<0↔b=true∧0<n:=by unfold sgn;cases b<;>simp<;>omega
theorem IsZ.ext{w w':World}{v:Value}{z:Int}(h:IsZ w v z)(he:Ext w w'):IsZ w' v z:=by
 obtain⟨b,s,n,h1,h2,h3⟩:=h;exact⟨b,s,n,h1,h2.ext he,h3⟩
theorem FrZ.ext{B0:Nat}{w w':World}{v:Value}{z:Int}(h:FrZ B0 w v z)(he:Ext w w'):FrZ B0 w' v z:=by
 obtain⟨s,h1,h2⟩:=h;exact⟨s,h1,h2.ext he⟩
theorem FrZ.chg{B0 g:Nat}{w w':World}{v:Value}{z:Int}(h:FrZ B0 w v z)(he:Chg g w w')(hg:g<B0):FrZ B0 w' v z:=by
 obtain⟨s,h1,h2⟩:=h;exact⟨s,h1,h2.chg he hg⟩
theorem FrZ.mono{B0 B1:Nat}{w:World}{v:Value}{z:Int}(h:FrZ B0 w v z)(hB:B1≤B0):FrZ B1 w v z:=by
 obtain⟨s,h1,h2⟩:=h;exact⟨s,h1,h2.mono hB⟩
theorem FrZ.isZ{B0:Nat}{w:World}{v:Value}{z:Int}(h:FrZ B0 w v z)(hs:szZ z≤LIM):IsZ w v z:=by
 obtain⟨s,h1,h2⟩:=h;exact⟨_,s,_,h1,h2.isC.isN W_gt hs,(sgn_self z).symm⟩
theorem FrN.slice{e:TypeId}{k:IntKind}{B B0 n:Nat}{w:World}{v:Value}(h:FrN e k B B0 w v n):∃ad cap,v= .slice ad (sz B n) cap:=by
 obtain⟨ad,cap,rfl,_⟩:=h;exact⟨ad,cap,rfl⟩
theorem FrN.oneCell{e:TypeId}{k:IntKind}{B B0 n:Nat}{w:World}{v:Value}(h:FrN e k B B0 w v n):v.oneCell'=true:=by
 obtain⟨ad,cap,rfl,_⟩:=h
 rfl
def PP.frZ{S:Nat}(z:Int):PP S:=⟨false,fun u w=>FrZ S w u z,fun _ _ _ h hp=>hp.ext h,fun _ _ hg _ _ _ h hp=>hp.chg h hg⟩
theorem make_calls(b:Bool)(s:Value)(n:Nat)(w:World)(hs:IsN .u64 W w s n):
  Calls Tryz.prog 57 #[.bool b,s] w fun e w'=>∃v',e= .returned v'∧FrZ w.heap.size w' v' (sgn b n)∧Ext w w':=by
 go_enter Tryz.func57,Tryz.ntmps57
 go_wp2_with fail;obtain⟨w1,hw1,e1,b1,s1⟩:=alloc1 w #[.bool false,.slice none 0 0] 34;rw[←hw1];refine(trim_calls s n _ (hs.ext e1)).mono ?_;rintro e w2 ⟨va,rfl,ha,hext⟩;have hb:=b1.ext hext;have hn0:= @sz_zero n;have Ha:=Lib.hid ha;obtain⟨ad,cap,rfl,hl,hc,ho⟩:=ha;have hc0:=hb.cell 0;have hc1:=hb.cell 1;have hf0:=hb.free 0;have hf1:=hb.free 1;go_wp2_with fail
 all_goals
  refine ret_box 4 34 w.heap.size 34 _ _ (by kernel_rfl) rfl ((hb.set 0 _).set 1 _) Tryz.underlying34 rfl (by kernel_rfl) rfl ?_;refine⟨_,rfl,⟨.slice ad (dg W n).length cap,?_,?_⟩,(e1.trans hext).step (Chg.trans (Chg.setCell _ w.heap.size 0 _) (Chg.setCell _ w.heap.size 1 _)) (Nat.le_refl _)⟩
  rotate_left
  ·rw[sgn_natAbs];exact(Ha.out.chg (Chg.trans (Chg.setCell _ w.heap.size 0 _) (Chg.setCell _ w.heap.size 1 _)) (by omega)).mono (by omega)
 all_goals
  have hd:(0<(dg W n).length)↔0<n:=by unfold sz at hn0;omega
  simp_all[sgn_lt]
theorem zsign_calls(v:Value)(z:Int)(w:World)(hv:IsZ w v z):
  Calls Tryz.prog 69 #[v] w fun e w'=>e= .returned (.int .i64 z.sign)∧Ext w w':=by
 obtain⟨b,s,n,rfl,hs,rfl⟩:=hv
 go_enter Tryz.func69,Tryz.ntmps69
 go_wp2_with fail;obtain⟨w1,hw1,e1,b1,s1⟩:=alloc1 w #[.bool b,s] 34;rw[←hw1];refine(bits_calls s n _ (hs.ext e1)).mono ?_;rintro e w2 ⟨rfl,hext⟩;have hb:=b1.ext hext;have hc0:=hb.cell 0;have hbits:= @bitsN_zero n;go_wp2
 all_goals
  go_ret;refine⟨?_,e1.trans hext⟩;rw[sgn_sign]
  simp_all
end Go.Proofs.YthoibjnkhkjnjaaGreat
