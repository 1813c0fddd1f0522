/-
 Constraints: plain: what they say, what follows of them. No program is named here.
-/
import Derived.Test.YtokfaggcojokgaaGreatCmaZ
namespace Go.Proofs.YtokfaggcojokgaaGreat
set_option maxRecDepth 100000
set_option maxHeartbeats 1000000
set_option linter.unusedVariables false
set_option linter.unusedSimpArgs false
abbrev CR:=Int×List (Int×Rat)×Rat
def sens(s:Int):Bool:=decide (1≤s∧s≤3)
def keptQ(s:Int)(a r:Rat):Bool:=decide ((s=1∧a≤r)∨(s=2∧r≤a)∨(s=3∧a=r))
def formC(c:CR):CR:=(c.1,mkV c.2.1,c.2.2)
def holdsC(c:CR)(xs:List Rat):Bool:=keptQ c.1 (dotV c.2.1 xs) c.2.2
def bareC(c:CR):Bool:=(mkV c.2.1).isEmpty
def falseC(c:CR):Bool:=sens c.1&&(bareC c&& !keptQ c.1 0 c.2.2)
def likeC(a b:CR):Bool:=decide (mkV a.2.1=mkV b.2.1)
def domC(a b:CR):Bool:=(sens a.1&&sens b.1)&&(falseC a || (bareC b&&keptQ b.1 0 b.2.2) || (likeC a b&&decide (a.1=b.1∨a.1=3)&&keptQ b.1 a.2.2 b.2.2))
theorem keptQ_iff{s:Int}{a r:Rat}:keptQ s a r=true↔(s=1∧a≤r)∨(s=2∧r≤a)∨(s=3∧a=r):=by unfold keptQ;exact decide_eq_true_iff
theorem sens_iff{s:Int}:sens s=true↔1≤s∧s≤3:=by unfold sens;exact decide_eq_true_iff
theorem bareC_iff{c:CR}:bareC c=true↔mkV c.2.1=[]:=by unfold bareC;exact List.isEmpty_iff
theorem likeC_iff{a b:CR}:likeC a b=true↔mkV a.2.1=mkV b.2.1:=by unfold likeC;exact decide_eq_true_iff
theorem falseC_iff{c:CR}:falseC c=true↔sens c.1=true∧mkV c.2.1=[]∧keptQ c.1 0 c.2.2=false:=by
 unfold falseC;rw[Bool.and_eq_true,Bool.and_eq_true,bareC_iff,Bool.not_eq_true']
theorem kept_self{s:Int}(h:sens s=true)(r:Rat):keptQ s r r=true:=by
 rw[keptQ_iff]
 have:=sens_iff.1 h
 rcases(show s=1∨s=2∨s=3 by omega)with e |e |e
 ·exact .inl ⟨e,Rat.le_refl⟩
 ·exact .inr (.inl ⟨e,Rat.le_refl⟩)
 ·exact .inr (.inr ⟨e,rfl⟩)
theorem kept_trans{s t:Int}{a b c:Rat}(h:keptQ s a b=true)(k:keptQ t b c=true)(hs:s=t∨s=3):keptQ t a c=true:=by
 rw[keptQ_iff]at h k ⊢
 rcases h with⟨h1,h2⟩ |⟨h1,h2⟩ |⟨h1,h2⟩<;>rcases k with⟨k1,k2⟩ |⟨k1,k2⟩ |⟨k1,k2⟩<;>first
  |exact .inl ⟨k1,Rat.le_trans h2 k2⟩
  |exact .inr (.inl ⟨k1,Rat.le_trans k2 h2⟩)
  |exact .inl ⟨k1,h2▸k2⟩
  |exact .inr (.inl ⟨k1,h2▸k2⟩)
  |exact .inr (.inr ⟨k1,h2.trans k2⟩)
  |omega
theorem dotV_bare{l:List (Int×Rat)}(h:mkV l=[])(xs:List Rat):dotV l xs=0:=by
 rw[←dotV_mk,h];rfl
theorem dotV_like{l m:List (Int×Rat)}(h:mkV l=mkV m)(xs:List Rat):dotV l xs=dotV m xs:=by
 rw[←dotV_mk l,h,dotV_mk]
theorem dom_holds{a b:CR}{xs:List Rat}(h:domC a b=true)(k:holdsC a xs=true):holdsC b xs=true:=by
 unfold domC at h;rw[Bool.and_eq_true,Bool.or_eq_true,Bool.or_eq_true,Bool.and_eq_true,Bool.and_eq_true]at h;unfold holdsC at k ⊢;obtain⟨-,(h |h) |h⟩:=h
 ·obtain⟨-,h1,h2⟩:=falseC_iff.1 h;rw[dotV_bare h1,h2]at k
  cases k
 ·rw[dotV_bare (bareC_iff.1 h.1)];exact h.2
 ·simp only[Bool.and_eq_true,decide_eq_true_iff]at h;obtain⟨⟨h1,h2⟩,h3⟩:=h;rw[←dotV_like (likeC_iff.1 h1)];exact kept_trans k h3 h2
theorem dom_self(a:CR):domC a a=sens a.1:=by
 unfold domC
 cases h:sens a.1
 ·rfl
 ·rw[kept_self h]
  simp[likeC]
theorem dom_trans{a b c:CR}(h:domC a b=true)(k:domC b c=true)(hf:falseC b=false):domC a c=true:=by
 unfold domC at h k ⊢;simp only[Bool.and_eq_true,Bool.or_eq_true,decide_eq_true_iff]at h k ⊢;obtain⟨⟨hs,ht⟩,h⟩:=h;obtain⟨⟨-,hu⟩,k⟩:=k;refine⟨⟨hs,hu⟩,?_⟩;rw[hf]at k
 rcases k with(k |k) |k
 ·cases k
 ·exact .inl (.inr k)
 ·obtain⟨⟨k1,k2⟩,k3⟩:=k
  rcases h with(h |h) |h
  ·exact .inl (.inl h)
  ·refine .inl (.inr ⟨bareC_iff.2 ?_,kept_trans h.2 k3 k2⟩);rw[←likeC_iff.1 k1];exact bareC_iff.1 h.1
  ·obtain⟨⟨h1,h2⟩,h3⟩:=h;refine .inr ⟨⟨likeC_iff.2 ((likeC_iff.1 h1).trans (likeC_iff.1 k1)),?_⟩,kept_trans h3 k3 k2⟩
   omega
theorem mul_mono_pos{q a b:Rat}(hq:0<q)(h:a≤b):q*a≤q*b:=Rat.mul_le_mul_of_nonneg_left h (Rat.le_of_lt hq)
theorem mul_mono_neg{q a b:Rat}(hq:q<0)(h:a≤b):q*b≤q*a:=by
 have h1:0< -q:=by grind
 have h2:=mul_mono_pos h1 h
 grind
open Go.RowKit
abbrev CE:=Int×List TE×RE
def ratC(c:CE):CR:=(c.1,ratT c.2.1,ratE c.2.2)
def fmC(c:CR):CE:=(c.1,fmV c.2.1,fmQ c.2.2)
def CnR(k:Nat)(w:World)(v:Value)(c:CR):Prop:=∃a n cp b a1 n1 c1 a2 n2 c2,v= .agg #[.int .i64 c.1,.slice a n cp,.bool b,.slice a1 n1 c1,.slice a2 n2 c2]∧TL k w (.slice a n cp) c.2.1∧IsR w (.agg #[.bool b,.slice a1 n1 c1,.slice a2 n2 c2]) c.2.2 k
def CnE(w:World)(v:Value)(c:CE):Prop:=∃a n cp b a1 n1 c1 a2 n2 c2,v= .agg #[.int .i64 c.1,.slice a n cp,.bool b,.slice a1 n1 c1,.slice a2 n2 c2]∧TLE w (.slice a n cp) c.2.1∧RawE w (.agg #[.bool b,.slice a1 n1 c1,.slice a2 n2 c2]) c.2.2
def CnO(B k:Nat)(w:World)(v:Value)(c:CR):Prop:=∃a n cp b a1 n1 c1 a2 n2 c2,v= .agg #[.int .i64 c.1,.slice a n cp,.bool b,.slice a1 n1 c1,.slice a2 n2 c2]∧TO B k w (.slice a n cp) c.2.1∧FrQ B w (.agg #[.bool b,.slice a1 n1 c1,.slice a2 n2 c2]) c.2.2∧szQ c.2.2≤k
theorem CnR.op{k:Nat}{w:World}{v:Value}{s:Int}{l:List (Int×Rat)}{x:Rat}(h:CnR k w v (s,l,x)):∃a n cp b a1 n1 c1 a2 n2 c2,v= .agg #[.int .i64 s,.slice a n cp,.bool b,.slice a1 n1 c1,.slice a2 n2 c2]∧TL k w (.slice a n cp) l∧IsR w (.agg #[.bool b,.slice a1 n1 c1,.slice a2 n2 c2]) x k:=h
theorem CnE.op{w:World}{v:Value}{s:Int}{l:List TE}{x:RE}(h:CnE w v (s,l,x)):∃a n cp b a1 n1 c1 a2 n2 c2,v= .agg #[.int .i64 s,.slice a n cp,.bool b,.slice a1 n1 c1,.slice a2 n2 c2]∧TLE w (.slice a n cp) l∧RawE w (.agg #[.bool b,.slice a1 n1 c1,.slice a2 n2 c2]) x:=h
theorem CnO.op{B k:Nat}{w:World}{v:Value}{s:Int}{l:List (Int×Rat)}{x:Rat}(h:CnO B k w v (s,l,x)):∃a n cp b a1 n1 c1 a2 n2 c2,v= .agg #[.int .i64 s,.slice a n cp,.bool b,.slice a1 n1 c1,.slice a2 n2 c2]∧TO B k w (.slice a n cp) l∧FrQ B w (.agg #[.bool b,.slice a1 n1 c1,.slice a2 n2 c2]) x∧szQ x≤k:=h
theorem CnR.ext{k:Nat}{w w':World}{v:Value}{c:CR}(h:CnR k w v c)(he:Ext w w'):CnR k w' v c:=by
 obtain⟨a,n,cp,b,a1,n1,c1,a2,n2,c2,h1,h2,h3⟩:=h;exact⟨a,n,cp,b,a1,n1,c1,a2,n2,c2,h1,h2.ext he,h3.ext he⟩
theorem CnE.ext{w w':World}{v:Value}{c:CE}(h:CnE w v c)(he:Ext w w'):CnE w' v c:=by
 obtain⟨a,n,cp,b,a1,n1,c1,a2,n2,c2,h1,h2,h3⟩:=h;exact⟨a,n,cp,b,a1,n1,c1,a2,n2,c2,h1,h2.ext he,h3.ext he⟩
theorem CnO.ext{B k:Nat}{w w':World}{v:Value}{c:CR}(h:CnO B k w v c)(he:Ext w w'):CnO B k w' v c:=by
 obtain⟨a,n,cp,b,a1,n1,c1,a2,n2,c2,h1,h2,h3,h4⟩:=h;exact⟨a,n,cp,b,a1,n1,c1,a2,n2,c2,h1,h2.ext he,h3.ext he,h4⟩
theorem CnO.chg{B k g:Nat}{w w':World}{v:Value}{c:CR}(h:CnO B k w v c)(hc:Chg g w w')(hg:g<B):CnO B k w' v c:=by
 obtain⟨a,n,cp,b,a1,n1,c1,a2,n2,c2,h1,h2,h3,h4⟩:=h;exact⟨a,n,cp,b,a1,n1,c1,a2,n2,c2,h1,h2.chg hc hg,h3.chg hc hg,h4⟩
theorem CnO.mono{B B' k:Nat}{w:World}{v:Value}{c:CR}(h:CnO B k w v c)(hB:B'≤B):CnO B' k w v c:=by
 obtain⟨a,n,cp,b,a1,n1,c1,a2,n2,c2,h1,h2,h3,h4⟩:=h;exact⟨a,n,cp,b,a1,n1,c1,a2,n2,c2,h1,h2.mono hB,h3.mono hB,h4⟩
theorem CnO.cnR{B k:Nat}{w:World}{v:Value}{c:CR}(h:CnO B k w v c)(hk:k≤LIM):CnR k w v c:=by
 obtain⟨a,n,cp,b,a1,n1,c1,a2,n2,c2,h1,h2,h3,h4⟩:=h;exact⟨a,n,cp,b,a1,n1,c1,a2,n2,c2,h1,h2.tl hk,h3.isR h4 hk⟩
theorem CnO.cnE{B k:Nat}{w:World}{v:Value}{c:CR}(h:CnO B k w v c)(hk:k≤LIM):CnE w v (fmC c):=by
 obtain⟨a,n,cp,b,a1,n1,c1,a2,n2,c2,h1,h2,h3,h4⟩:=h;exact⟨a,n,cp,b,a1,n1,c1,a2,n2,c2,h1,h2.tle hk,h3.rawE (by omega)⟩
theorem CnR.le{k k':Nat}{w:World}{v:Value}{c:CR}(h:CnR k w v c)(hk:k≤k'):CnR k' w v c:=by
 obtain⟨a,n,cp,b,a1,n1,c1,a2,n2,c2,h1,h2,h3⟩:=h;exact⟨a,n,cp,b,a1,n1,c1,a2,n2,c2,h1,h2.le hk,h3.mono hk⟩
theorem CnE.cnR{w:World}{v:Value}{c:CE}(h:CnE w v c)(k:Nat)(hk:1≤k)(hk2:k≤LIM)(hl:∀e∈c.2.1,wordsE e.2≤k)(hr:wordsE c.2.2≤k):CnR k w v (ratC c):=by
 obtain⟨a,n,cp,b,a1,n1,c1,a2,n2,c2,h1,h2,h3⟩:=h;unfold wordsE at hr;exact⟨a,n,cp,b,a1,n1,c1,a2,n2,c2,h1,h2.tl k hk hk2 hl,h3.1.isR h3.2.1 h3.2.2.1 k (by omega) (by omega) hk hk2⟩
def PP.cnO{S:Nat}(k:Nat)(c:CR):PP S:=⟨false,fun u w=>CnO S k w u c,fun _ _ _ h hp=>hp.ext h,fun _ _ hg _ _ _ h hp=>hp.chg h hg⟩
def CL(k:Nat)(w:World)(u:Value)(cs:List CR):Prop:=SL 5 (CnR k) w u cs
def CLE(w:World)(u:Value)(l:List CE):Prop:=SL 5 CnE w u l
theorem CLE.ext{w w':World}{u:Value}{l:List CE}(h:CLE w u l)(he:Ext w w'):CLE w' u l:=SL.ext (fun _ _ h=>h.ext he) h he
theorem SL.mapL{α β:Type}{n:Nat}{R:World→Value→α→Prop}{R':World→Value→β→Prop}{f:α→β}{w:World}{v:Value}{ys:List α}(h:SL n R w v ys)(hR:∀u y,y∈ys→R w u y→R' w u (f y)):SL n R' w v (ys.map f):=by
 obtain⟨ad,cap,h1,h2,h3,h4⟩:=h;refine⟨ad,cap,by rw[List.length_map];exact h1,by rw[List.length_map];exact h2,h3,?_⟩
 rcases h4 with h4 |⟨g,off,h4,h5⟩
 ·exact .inl (by rw[h4];rfl)
 ·refine .inr ⟨g,off,h4,fun i x hx=> ?_⟩;rw[List.getElem?_map]at hx
  cases hy:ys[i]? with
  |none=>rw [hy]at hx;cases hx
  |some y=>
   rw[hy]at hx;simp only[Option.map_some,Option.some.injEq]at hx;subst hx;obtain⟨cs,k1,k2,k3⟩:=h5 i y hy;exact⟨cs,k1,k2,hR _ _ (List.mem_of_getElem? hy) k3⟩
theorem CL.at{k:Nat}{w:World}{u:Value}{cs:List CR}(h:CL k w u cs):∃ad m cap,m=cs.length∧u= .slice ad m cap∧m≤9223372036854775807∧∀(i:Nat) (c:CR),cs[i]? =some c→∃g off,ad=some ⟨g,off,none⟩∧∃a n cp b a1 n1 c1 a2 n2 c2,
  (∀wz,Ext w wz→wz.cell? ⟨g,off+i*5,none⟩=some (.int .i64 c.1)∧wz.cell? ⟨g,off+i*5+1,none⟩=some (.slice a n cp)∧wz.cell? ⟨g,off+i*5+2,none⟩=some (.bool b)∧wz.cell? ⟨g,off+i*5+3,none⟩=some (.slice a1 n1 c1)∧wz.cell? ⟨g,off+i*5+4,none⟩=some (.slice a2 n2 c2))∧
  TL k w (.slice a n cp) c.2.1∧IsR w (.agg #[.bool b,.slice a1 n1 c1,.slice a2 n2 c2]) c.2.2 k:=by
 obtain⟨ad,m,cap,h1,h2,h3,h4⟩:=h.opn;refine⟨ad,m,cap,h1,h2,h3,fun i c hi=> ?_⟩;obtain⟨g,off,k1,xs,k2,k3,a,n,cp,b,a1,n1,c1,a2,n2,c2,j1,j2,j3⟩:=h4 i c hi
 cases j1
 exact⟨g,off,k1,a,n,cp,b,a1,n1,c1,a2,n2,c2,fun wz hz=>⟨k3 wz hz 0 _ rfl,k3 wz hz 1 _ rfl,k3 wz hz 2 _ rfl,k3 wz hz 3 _ rfl,k3 wz hz 4 _ rfl⟩,j2,j3⟩
theorem CLE.at{w:World}{u:Value}{l:List CE}(h:CLE w u l):∃ad m cap,m=l.length∧u= .slice ad m cap∧m≤9223372036854775807∧∀(i:Nat) (c:CE),l[i]? =some c→∃g off,ad=some ⟨g,off,none⟩∧∃a n cp b a1 n1 c1 a2 n2 c2,n1=c.2.2.2.1.length∧n2=c.2.2.2.2.length∧
  (∀wz,Ext w wz→wz.cell? ⟨g,off+i*5,none⟩=some (.int .i64 c.1)∧wz.cell? ⟨g,off+i*5+1,none⟩=some (.slice a n cp)∧wz.cell? ⟨g,off+i*5+2,none⟩=some (.bool b)∧wz.cell? ⟨g,off+i*5+3,none⟩=some (.slice a1 n1 c1)∧wz.cell? ⟨g,off+i*5+4,none⟩=some (.slice a2 n2 c2))∧
  TLE w (.slice a n cp) c.2.1∧RawE w (.agg #[.bool b,.slice a1 n1 c1,.slice a2 n2 c2]) c.2.2:=by
 obtain⟨ad,m,cap,h1,h2,h3,h4⟩:=h.opn;refine⟨ad,m,cap,h1,h2,h3,fun i c hi=> ?_⟩;obtain⟨g,off,k1,xs,k2,k3,a,n,cp,b,a1,n1,c1,a2,n2,c2,j1,j2,j3⟩:=h4 i c hi
 cases j1
 obtain⟨b1,m1,d1,b2,m2,d2,i1,i2,i3⟩:=RawQ.opn2 j3.1
 cases i3
 exact⟨g,off,k1,a,n,cp,_,_,_,_,_,_,_,i1,i2,fun wz hz=>⟨k3 wz hz 0 _ rfl,k3 wz hz 1 _ rfl,k3 wz hz 2 _ rfl,k3 wz hz 3 _ rfl,k3 wz hz 4 _ rfl⟩,j2,j3⟩
def PP.whn{S:Nat}(g:Bool)(q:PP S):PP S:=⟨q.c,fun u w=>(g=true→q.p u w)∧(g=false→u=undef),fun a b c h hp=>⟨fun hg=>q.m a b c h (hp.1 hg),hp.2⟩,fun hc x hx a b c h hp=>⟨fun hg=>q.m2 hc x hx a b c h (hp.1 hg),hp.2⟩⟩
theorem when_t{v:Value}{c:Bool}(h:v= .bool c):v= .bool true↔c=true:=by
 subst h;exact⟨fun h=>(by injection h),fun h=>(by rw[h])⟩
theorem when_f{v:Value}{c:Bool}(h:v= .bool c):v= .bool false↔(!c)=true:=by
 subst h
 exact⟨fun h=>(by injection h with h;rw[h];rfl),fun h=>by (cases c<;>first |rfl |cases h)⟩
theorem when_in{v:Value}{g c:Bool}(h:(g=true→v= .bool c)∧(g=false→v=undef)):v= .bool true↔(g&&c)=true:=by
 cases g
 ·rw[h.2 rfl];exact⟨fun h=>(by cases h),fun h=>(by cases h)⟩
 ·rw[h.1 rfl];exact⟨fun h=>(by injection h),fun h=>(by rw[show c=true from h])⟩
theorem og_when{P:Program}{o:Oper}{a:Act}{f:Nat→Value}{w:World}{R:World→World→Prop}{p:Value→World→Prop}{j:Nat}{want g:Bool}(hg:o.guard=some (j,want))(hw:f j= .bool want↔g=true)(h:g=true→OpGoal P {o with guard:=none} a f w R p):
  OpGoal P o a f w R (fun u w=>(g=true→p u w)∧(g=false→u=undef)):=by
 unfold OpGoal;rw[hg];refine⟨fun hf=> ?_,fun hf=>⟨fun h1=>absurd (hw.2 h1) hf,fun _=>rfl⟩⟩;have hgt:=hw.1 hf
 have:=h hgt
 unfold OpGoal at this
 simp only at this
 refine Oper.wp_mono (fun e w1 hw1=> ?_) this;obtain⟨v,h1,h2,h3⟩:=hw1;exact⟨v,h1,h2,fun _=>h3,fun h4=>by rw[hgt]at h4;cases h4⟩
section
variable {P:Program} {o:Oper} {a:Act} {f:Nat→Value} {w:World} {post:Value→World→Prop}
theorem og_pickA(x y:Operand){c d:Bool}(hgd:o.guard=none)(ho:o.op= .pick x y (.const (.bool false)))(hx:a.eval x= .bool c)(hy:c=true→a.eval y= .bool d)(hp:post (.bool (c&&d)) w):OpGoal P o a f w Ext post:=by
 unfold OpGoal;rw[hgd];unfold Oper.wp execOp
 cases c
 ·simp only[ho,hx];exact⟨_,rfl,Ext.refl w,hp⟩
 ·have hy:=hy rfl;simp only[ho,hx,hy];exact⟨_,rfl,Ext.refl w,hp⟩
theorem og_pickO(x y:Operand){c d:Bool}(hgd:o.guard=none)(ho:o.op= .pick x (.const (.bool true)) y)(hx:a.eval x= .bool c)(hy:c=false→a.eval y= .bool d)(hp:post (.bool (c || d)) w):OpGoal P o a f w Ext post:=by
 unfold OpGoal;rw[hgd];unfold Oper.wp execOp
 cases c
 ·have hy:=hy rfl;simp only[ho,hx,hy];exact⟨_,rfl,Ext.refl w,hp⟩
 ·simp only[ho,hx];exact⟨_,rfl,Ext.refl w,hp⟩
theorem og_not(t:TypeId)(x:Operand){c:Bool}(hgd:o.guard=none)(ho:o.op= .unOp .not t x)(hx:a.eval x= .bool c)(hp:post (.bool (!c)) w):OpGoal P o a f w Ext post:=by
 unfold OpGoal;rw[hgd];unfold Oper.wp execOp;simp only[ho,hx];exact⟨_,rfl,Ext.refl w,hp⟩
end
theorem sens_no{s:Int}(h:¬(1≤s∧s≤3)):sens s=false:=by unfold sens;exact decide_eq_false h
theorem sensible_calls(s:Int)(w:World):
  Calls Tryz.prog 77 #[.int .i64 s] w fun e w'=>e= .returned (.bool (sens s))∧Ext w w':=by
 by_cases h1:1≤s
 ·by_cases h2:s≤3
  ·have HS:=Lib.hid (show sens s=true from sens_iff.2 ⟨h1,h2⟩)
   go_enter Tryz.func77,Tryz.ntmps77
   go_wp2;go_ret
   exact⟨by rw[HS.out]<;>rfl,Ext.refl _⟩
  ·have HS:=Lib.hid (sens_no fun h=>h2 h.2)
   go_enter Tryz.func77,Tryz.ntmps77
   go_wp2;go_ret
   exact⟨by rw[HS.out]<;>rfl,Ext.refl _⟩
 ·have HS:=Lib.hid (sens_no fun h=>h1 h.1)
  go_enter Tryz.func77,Tryz.ntmps77
  go_wp2;go_ret
  exact⟨by rw[HS.out]<;>rfl,Ext.refl _⟩
theorem kept_1(a r:Rat):keptQ 1 a r=decide (cmpR a r≤0):=by
 unfold keptQ;rw[decide_eq_decide,cmpR_le]
 constructor
 ·rintro(⟨-,h⟩ |⟨h, -⟩ |⟨h, -⟩)
  ·exact h
  ·omega
  ·omega
 ·exact fun h=> .inl ⟨rfl,h⟩
theorem kept_2(a r:Rat):keptQ 2 a r=decide (0≤cmpR a r):=by
 unfold keptQ;have h0:=cmpR_swap r a;rw[decide_eq_decide,show(0≤cmpR a r)↔(cmpR r a≤0)by omega,cmpR_le]
 constructor
 ·rintro(⟨h, -⟩ |⟨-,h⟩ |⟨h, -⟩)
  ·omega
  ·exact h
  ·omega
 ·exact fun h=> .inr (.inl ⟨rfl,h⟩)
theorem kept_3(a r:Rat):keptQ 3 a r=(cmpR a r==0):=by
 unfold keptQ;rw[Bool.eq_iff_iff,decide_eq_true_iff,beq_iff_eq];have h0:=cmpR_swap r a
 constructor
 ·rintro(⟨h, -⟩ |⟨h, -⟩ |⟨-,h⟩)
  ·omega
  ·omega
  ·subst h;unfold cmpR;rw[if_neg Rat.lt_irrefl,if_pos rfl]
 ·intro h;have h1:a≤r:=cmpR_le.1 (by omega);have h2:r≤a:=cmpR_le.1 (by omega);exact .inr (.inr ⟨rfl,Rat.le_antisymm h1 h2⟩)
theorem kept_none{s:Int}(h1:s≠1)(h2:s≠2)(h3:s≠3)(a r:Rat):keptQ s a r=false:=by
 unfold keptQ
 exact decide_eq_false (by rintro(⟨h, -⟩ |⟨h, -⟩ |⟨h, -⟩)<;>omega)
def keptI(s o:Int):Bool:=if s=1 then decide (o≤0)else if s=2 then decide (0≤o)else if s=3 then o==0 else false
theorem keptI_eq(s:Int)(a r:Rat):keptI s (cmpR a r)=keptQ s a r:=by
 unfold keptI
 split
 ·rename_i h;rw[h,kept_1]
 ·split
  ·rename_i h;rw[h,kept_2]
  ·split
   ·rename_i h;rw[h,kept_3]
   ·rename_i h1 h2 h3;rw[kept_none h1 h2 h3]
set_option maxHeartbeats 4000000 in
theorem kept_calls(s:Int)(v u:Value)(a r:Rat)(k l:Nat)(w:World)(hv:IsR w v a k)(hu:IsR w u r l)(hkl:k+l≤68719476736):
  Calls Tryz.prog 91 #[.int .i64 s,v,u] w fun e w'=>e= .returned (.bool (keptQ s a r))∧Ext w w':=by
 obtain⟨b,a1,n1,c1,a2,n2,c2,rfl⟩:=hv.parts;obtain⟨d,d1,m1,e1,d2,m2,e2,rfl⟩:=hu.parts;have HV:=Lib.hid hv;have HU:=Lib.hid hu;clear hv hu;obtain⟨w1,hw1,x1,b1,b2,s1⟩:=alloc2 w #[.bool b,.slice a1 n1 c1,.slice a2 n2 c2] #[.bool d,.slice d1 m1 e1,.slice d2 m2 e2] 34 34
 go_enter Tryz.func91,Tryz.ntmps91
 go_wp2_with fail;rw[←hw1];refine(rcmp_calls _ _ a r k l w1 (HV.out.ext x1) (HU.out.ext x1) hkl).mono ?_;rintro e w2 ⟨rfl,x2⟩;have HK:=Lib.hid (keptI_eq s a r);obtain⟨o,ho⟩:∃o,o=cmpR a r:=⟨_,rfl⟩;rw[←ho]at HK ⊢;have X:=x1.trans x2;clear ho HV HU
 by_cases h1:s=1
 ·subst h1;have HI:=Lib.hid (show keptI 1 o=decide (o≤0)from rfl);go_wp2;go_ret
  exact⟨by rw[←HK.out,HI.out]<;>rfl,X⟩
 by_cases h2:s=2
 ·subst h2;have HI:=Lib.hid (show keptI 2 o=decide (0≤o)from rfl);go_wp2;go_ret
  exact⟨by rw[←HK.out,HI.out]<;>rfl,X⟩
 by_cases h3:s=3
 ·subst h3;have HI:=Lib.hid (show keptI 3 o=(o==0)from rfl);go_wp2;go_ret
  exact⟨by rw[←HK.out,HI.out]<;>rfl,X⟩
 have HI:=Lib.hid (show keptI s o=false by unfold keptI;rw[if_neg h1,if_neg h2,if_neg h3])
 have g1:(s==1)=false:=by simpa using h1
 have g2:(s==2)=false:=by simpa using h2
 have g3:(s==3)=false:=by simpa using h3
 go_wp2;go_ret
 exact⟨by rw[←HK.out,HI.out]<;>rfl,X⟩
set_option maxHeartbeats 4000000 in
theorem cform_calls(k K:Nat)(v:Value)(c:CR)(w:World)(hv:CnR k w v c)(hn:c.2.1.length≤1073741824)(hk:(c.2.1.length+1)*(k+1)≤34359738000)(hK:c.2.1.length*(k+1)≤K)(hK2:k≤K):
  Calls Tryz.prog 34 #[v] w fun e w'=>∃v',e= .returned v'∧CnO w.heap.size K w' v' (formC c)∧Ext w w':=by
 obtain⟨s,l,x⟩:=c;have hkk:k+1≤(l.length+1)*(k+1):=Nat.le_mul_of_pos_left _ (by omega)
 simp only at hn hk hK
 unfold formC
 simp only
 obtain⟨a,n,p,b,a1,n1,c1,a2,n2,c2,rfl,ht,hr⟩:=hv.op;have HT:=Lib.hid ht;have HR:=Lib.hid hr;clear ht hr
 go_enter Tryz.func34,Tryz.ntmps34
 go_wp2_with fail;obtain⟨w1,hw1,e1,b1,b2,s1⟩:=alloc2 w #[.int .i64 s,.slice a n p,.bool b,.slice a1 n1 c1,.slice a2 n2 c2] #[.int .i64 0,.slice none 0 0,.bool false,.slice none 0 0,.slice none 0 0] 36 36;rw[←hw1];clear hw1;refine wpP [⟨9,(w.heap.size+1),36,PP.cnO K (s,mkV l,x)⟩] [PP.val (.pointer (some ⟨w.heap.size,0,none⟩)),PP.val (.int .i64 s),PP.val (.pointer (some ⟨w.heap.size,1,none⟩)),PP.val (.slice a n p),PP.tO K (mkV l),PP.val (.pointer (some ⟨w.heap.size,2,none⟩)),PP.val (.agg #[.bool b,.slice a1 n1 c1,.slice a2 n2 c2]),PP.frQ x,PP.cnO K (s,mkV l,x),PP.any] [] [9,8,7,6,5,4,3,2,1,0] ?_ ?_ ?_ ?_ ?_
 ·intro x hx;simp only[List.mem_singleton]at hx;subst hx;exact⟨by show(w.heap.size+1)<w1.heap.size;omega,rfl⟩
 ·intro x hx;simp only[List.mem_singleton]at hx;subst hx;rfl
 ·intro x hx y hy h;simp only[List.mem_singleton]at hx hy;subst hx hy;exact absurd rfl h
 ·refine⟨?_,?_,?_,?_,?_,?_,?_,?_,?_,?_,trivial⟩
  ·intro f w2 hG hp hl;simp only[OpGoal];go_simp;exact⟨_,rfl,Ext.refl _,rfl⟩
  ·intro f w2 hG hp hl;have hE:Ext w1 w2:=hG;have q3:=tE hp 0 0 rfl rfl rfl;have hcell:=(b1.ext hE).cell 0;simp only[OpGoal];go_simp;exact⟨_,rfl,Ext.refl _,rfl⟩
  ·intro f w2 hG hp hl;simp only[OpGoal];go_simp;exact⟨_,rfl,Ext.refl _,rfl⟩
  ·intro f w2 hG hp hl;have hE:Ext w1 w2:=hG;have q5:=tE hp 0 2 rfl rfl rfl;have hcell:=(b1.ext hE).cell 1;simp only[OpGoal];go_simp;exact⟨_,rfl,Ext.refl _,rfl⟩
  ·intro f w2 hG hp hl;have hE:Ext w1 w2:=hG;have hS:=hE.size;have q6:=tE hp 0 3 rfl rfl rfl;change OpGoal _ _ _ f w2 Ext _;refine oC #[f 3] Tryz.func90 rfl rfl ?_;rw[q6];refine(vmake_calls k _ l _ (HT.out.ext (e1.trans hE)) hn hk).mono ?_;rintro e w' ⟨v',rfl,h1,h2⟩;exact⟨v',rfl,h2,(h1.le hK).mono hS⟩
  ·intro f w2 hG hp hl;simp only[OpGoal];go_simp;exact⟨_,rfl,Ext.refl _,rfl⟩
  ·intro f w2 hG hp hl;have hE:Ext w1 w2:=hG;have q8:=tE hp 0 5 rfl rfl rfl;have hbx:=b1.ext hE;have hcell0:=hbx.cell 0;have hcell1:=hbx.cell 1;have hcell2:=hbx.cell 2;have hcell3:=hbx.cell 3;have hcell4:=hbx.cell 4;simp only[OpGoal];go_simp;exact⟨_,rfl,Ext.refl _,rfl⟩
  ·intro f w2 hG hp hl;have hE:Ext w1 w2:=hG;have hS:=hE.size;have q9:=tE hp 0 6 rfl rfl rfl;change OpGoal _ _ _ f w2 Ext _;refine oC #[f 6] Tryz.func101 rfl rfl ?_;rw[q9];refine(form_calls _ x k _ (HR.out.ext (e1.trans hE)) (by omega)).mono ?_;rintro e w' ⟨v',rfl,h1,h2⟩;exact⟨v',rfl,h2,h1.mono hS⟩
  ·intro f w2 hG hp hl;have hE:Ext w1 w2:=hG;have q4:=tE hp 0 1 rfl rfl rfl;have q7:=tellV hp 1 4 rfl rfl (fun _=>hE);have q10:=tellV hp 2 7 rfl rfl (fun _=>hE);obtain⟨ad,cap,hv⟩:=TO.val q7;obtain⟨s',t',hv2,hn2,hm2⟩:=q10;obtain⟨ad1,cap1,hv3⟩:=FrN.slice hn2;obtain⟨ad2,cap2,hv4⟩:=FrN.slice hm2;subst hv3 hv4;simp only[OpGoal];go_simp;exact⟨_,rfl,Ext.refl _,_,_,_,_,_,_,_,_,_,_,rfl,hv▸q7,⟨_,_,rfl,hn2,hm2⟩,Nat.le_trans HR.out.sz hK2⟩
  ·intro f w2 hG hp hl;have hE:Ext w1 w2:=hG;have hS:=hE.size;have q11:=tellV hp 0 8 rfl rfl (fun _=>hE);intro hg0;change OpGoal _ _ _ f w2 (Chg _) _;obtain⟨a',n',p',b',a1',n1',c1',a2',n2',c2',hv,ht,hq,hz⟩:=q11;exact og_store (P:=Tryz.prog) _ _ _ (w.heap.size+1) _ _ _ (PP.cnO K (s,mkV l,x):PP _).p rfl rfl rfl hv (show Bx 36 w2 _ _ from hg0.trans b2) (by kernel_rfl) rfl (all5 rfl rfl rfl rfl rfl) (fun w' h=>⟨a',n',p',b',a1',n1',c1',a2',n2',c2',rfl,ht.chg h (by omega),hq.chg h (by omega),hz⟩)
 ·intro f w2 hG hp;obtain⟨cs0,hbx0,hz0⟩:∃cs,Bx 36 w2 (w.heap.size+1) cs∧(PP.cnO K (s,mkV l,x):PP w1.heap.size).p (.agg cs) w2:=endS hp 9 (by decide);clear hp;have hz1:=hz0.mono (show w.heap.size≤_ by omega);obtain⟨a',n',p',b',a1',n1',c1',a2',n2',c2',hvv,hnn,hmm,hzz⟩:=hz0
  cases hvv
  go_wp2;refine ret_box 2 36 (w.heap.size+1) 36 _ _ (by kernel_rfl) rfl hbx0 Tryz.underlying36 rfl (by kernel_rfl) rfl ?_;exact⟨_,rfl,hz1,e1.stepS hG (by simp)⟩
theorem szQ_int0:szQ ((0:Int):Rat)≤1:=by decide+kernel
theorem szQ_int1:szQ ((1:Int):Rat)≤1:=by decide+kernel
theorem szQ_intm1:szQ (((-1:Int)):Rat)≤1:=by decide+kernel
set_option maxHeartbeats 4000000 in
theorem holds_calls(k kx:Nat)(v u:Value)(c:CR)(xs:List Rat)(w:World)(hv:CnR k w v c)(hx:QL kx w u xs)(hk:(c.2.1.length+1)*(k+kx+1)≤34359738000):
  Calls Tryz.prog 39 #[v,u] w fun e w'=>e= .returned (.bool (holdsC c xs))∧Ext w w':=by
 obtain⟨s,l,x⟩:=c
 simp only at hk
 unfold holdsC
 simp only
 have hkk:l.length*(k+kx+1)+(k+kx+1)≤34359738000:=Nat.le_trans (Nat.le_of_eq (Nat.succ_mul ..).symm) hk;obtain⟨a,n,p,b,a1,n1,c1,a2,n2,c2,rfl,ht,hr⟩:=hv.op;have HT:=Lib.hid ht;have HR:=Lib.hid hr;clear ht hr;have HX:=Lib.hid hx;clear hx
 have lim:68719476736≤LIM:=by rw[LIM_eq];omega
 obtain⟨w1,hw1,e1,b1_,s1⟩:=alloc1 w #[.int .i64 s,.slice a n p,.bool b,.slice a1 n1 c1,.slice a2 n2 c2] 36
 go_enter Tryz.func39,Tryz.ntmps39
 go_wp2_with fail;rw[←hw1];clear hw1;refine wpQ [PP.val (.pointer (some ⟨w.heap.size,0,none⟩)),PP.val (.int .i64 s),PP.val (.pointer (some ⟨w.heap.size,1,none⟩)),PP.val (.slice a n p),PP.val (u),PP.frQS (dotV l xs) (l.length*(k+kx+1)+1),PP.val (.pointer (some ⟨w.heap.size,2,none⟩)),PP.val (.agg #[.bool b,.slice a1 n1 c1,.slice a2 n2 c2]),PP.val (.bool (keptQ s (dotV l xs) x)),PP.val (.bool (keptQ s (dotV l xs) x))] [] [0,1,2,3,4,5,6,7,8,9] ?_ ?_
 ·refine⟨?_,?_,?_,?_,?_,?_,?_,?_,?_,?_,trivial⟩
  ·intro f w2 hG hp hl;simp only[OpGoal];go_simp;exact⟨_,rfl,Ext.refl _,rfl⟩
  ·intro f w2 hG hp hl;have hE:Ext w1 w2:=hG;have q5:=tE hp 0 0 rfl rfl rfl;have hcell:=(b1_.ext hE).cell 0;simp only[OpGoal];go_simp;exact⟨_,rfl,Ext.refl _,rfl⟩
  ·intro f w2 hG hp hl;simp only[OpGoal];go_simp;exact⟨_,rfl,Ext.refl _,rfl⟩
  ·intro f w2 hG hp hl;have hE:Ext w1 w2:=hG;have q7:=tE hp 0 2 rfl rfl rfl;have hcell:=(b1_.ext hE).cell 1;simp only[OpGoal];go_simp;exact⟨_,rfl,Ext.refl _,rfl⟩
  ·intro f w2 hG hp hl;simp only[OpGoal];go_simp;exact⟨_,rfl,Ext.refl _,rfl⟩
  ·intro f w2 hG hp hl;have hE:Ext w1 w2:=hG;have hS:=hE.size;have q8:=tE hp 0 3 rfl rfl rfl;have q9:=tE hp 1 4 rfl rfl rfl;change OpGoal _ _ _ f w2 Ext _;refine oC #[f 3,f 4] Tryz.func108 rfl rfl ?_;rw[q8,q9];refine(vdot_calls k kx _ _ l xs _ (HT.out.ext (e1.trans hE)) (HX.out.ext (e1.trans hE)) hk).mono ?_;rintro e w' ⟨v',rfl,h1,h1b,h2⟩;exact⟨v',rfl,h2,h1.mono hS,h1b⟩
  ·intro f w2 hG hp hl;simp only[OpGoal];go_simp;exact⟨_,rfl,Ext.refl _,rfl⟩
  ·intro f w2 hG hp hl;have hE:Ext w1 w2:=hG;have q11:=tE hp 0 6 rfl rfl rfl;have hbx:=b1_.ext hE;have hcell0:=hbx.cell 0;have hcell1:=hbx.cell 1;have hcell2:=hbx.cell 2;have hcell3:=hbx.cell 3;have hcell4:=hbx.cell 4;simp only[OpGoal];go_simp;exact⟨_,rfl,Ext.refl _,rfl⟩
  ·intro f w2 hG hp hl;have hE:Ext w1 w2:=hG;have hS:=hE.size;have q6:=tE hp 0 1 rfl rfl rfl;have q10:=tellV hp 1 5 rfl rfl (fun _=>hE);have q12:=tE hp 2 7 rfl rfl rfl;change OpGoal _ _ _ f w2 Ext _;refine oC #[f 1,f 5,f 7] Tryz.func91 rfl rfl ?_;rw[q6,q12];refine(kept_calls s _ _ (dotV l xs) x (l.length*(k+kx+1)+1) k _ (q10.1.isR q10.2 (by omega)) (HR.out.ext (e1.trans hE)) (by omega)).mono ?_;rintro e w' ⟨rfl,h2⟩;exact⟨_,rfl,h2,rfl⟩
  ·intro f w2 hG hp hl;have q13:=tE hp 0 8 rfl rfl rfl;exact⟨_,rfl,Ext.refl _,q13⟩
 ·intro f w2 hG hp;have hE:Ext w1 w2:=ChgS.nil hG
  have q4:f 9= .bool (keptQ s (dotV l xs) x):=endV hp 9 (by decide) rfl (fun h=>by cases h)
  try simp only[q4]
  clear hp;have X:=e1.trans hE;obtain⟨pp,hpp⟩:∃pp,pp=keptQ s (dotV l xs) x:=⟨_,rfl⟩;rw[←hpp];have HP:=Lib.hid hpp;clear hpp;go_wp2;go_ret
  exact⟨by rw[←HP.out]<;>rfl,X⟩
theorem like_ax(l m:List (Int×Rat)):mkV (m++scV (((-1:Int)):Rat) l)=[]↔mkV l=mkV m:=by
 have h1:∀d,getV (m++scV (((-1:Int)):Rat) l) d=getV m d - getV l d:=fun d=>by
  rw[getV_append,scV_get];rw[show (((-1:Int)):Rat)= -1 from rfl]
  grind
 constructor
 ·intro h
  refine mkV_congr fun d=> ?_
  have h2:=h1 d;rw[←mkV_get,h,getV_nil]at h2
  grind
 ·intro h;rw[show ([]:List (Int×Rat))=mkV []from rfl]
  refine mkV_congr fun d=> ?_
  rw[h1,getV_nil,←mkV_get l,h,mkV_get]
  grind
theorem len_zero{α:Type}{l:List α}{m:Nat}(h:m=l.length):((m:Int)==0)=l.isEmpty:=by
 subst h
 cases l<;>simp
 omega
set_option maxHeartbeats 4000000 in
theorem calike_calls(k k2:Nat)(v u:Value)(a b:CR)(w:World)(hv:CnR k w v a)(hu:CnR k2 w u b)(hn:b.2.1.length+a.2.1.length≤1073741824)(hk:(b.2.1.length+a.2.1.length+1)*(k+k2+2)≤34359738000):
  Calls Tryz.prog 92 #[v,u] w fun e w'=>e= .returned (.bool (likeC a b))∧Ext w w':=by
 obtain⟨s,l,x⟩:=a;obtain⟨s2,m,x2⟩:=b
 simp only at hk hn
 have HL:Hid (likeC (s,l,x) (s2,m,x2)=(mkV (m++scV (((-1:Int)):Rat) l)).isEmpty):=Lib.hid (by
  rw[Bool.eq_iff_iff,likeC_iff,List.isEmpty_iff]
  exact(like_ax l m).symm)
 obtain⟨a,n,p,b,a1,n1,c1,a2,n2,c2,rfl,ht,hr⟩:=hv.op;have HT:=Lib.hid ht;have HR:=Lib.hid hr;clear ht hr;obtain⟨ay,ny,py,bby,a1y,n1y,c1y,a2y,n2y,c2y,rfl,hty,hry⟩:=hu.op;have HTy:=Lib.hid hty;have HRy:=Lib.hid hry;clear hty hry
 have lim:68719476736≤LIM:=by rw[LIM_eq];omega
 obtain⟨q,hq⟩:∃q,q=(mkV (m++scV (((-1:Int)):Rat) l)).length:=⟨_,rfl⟩;have HQ:=Lib.hid hq;have HZ:=Lib.hid (len_zero hq);clear hq;obtain⟨w1,hw1,e1,b1_,b2_,s1⟩:=alloc2 w #[.int .i64 s,.slice a n p,.bool b,.slice a1 n1 c1,.slice a2 n2 c2] #[.int .i64 s2,.slice ay ny py,.bool bby,.slice a1y n1y c1y,.slice a2y n2y c2y] 36 36
 go_enter Tryz.func92,Tryz.ntmps92
 go_wp2_with fail;rw[←hw1];clear hw1;refine wpQ [PP.frQS (((-1:Int)):Rat) 1,PP.val (.pointer (some ⟨w.heap.size,1,none⟩)),PP.val (.slice a n p),PP.val (.pointer (some ⟨(w.heap.size+1),1,none⟩)),PP.val (.slice ay ny py),PP.tO ((m.length+l.length)*(k+k2+1+1)) (mkV (m++scV (((-1:Int)):Rat) l)),PP.val (.int .i64 (q:Int)),PP.val (.bool ((q:Int)==0)),PP.val (.bool ((q:Int)==0))] [] [0,1,2,3,4,5,6,7,8] ?_ ?_
 ·refine⟨?_,?_,?_,?_,?_,?_,?_,?_,?_,trivial⟩
  ·intro f w2 hG hp hl;have hE:Ext w1 w2:=hG;have hS:=hE.size;change OpGoal _ _ _ f w2 Ext _;refine oC #[.int .i64 (-1)] Tryz.func78 rfl rfl ?_;refine(rwhole_calls (-1) _ (by omega) (by omega)).mono ?_;rintro e w' ⟨v',rfl,h1,h2⟩;exact⟨v',rfl,h2,h1.mono hS,szQ_intm1⟩
  ·intro f w2 hG hp hl;simp only[OpGoal];go_simp;exact⟨_,rfl,Ext.refl _,rfl⟩
  ·intro f w2 hG hp hl;have hE:Ext w1 w2:=hG;have q6:=tE hp 0 1 rfl rfl rfl;have hcell:=(b1_.ext hE).cell 1;simp only[OpGoal];go_simp;exact⟨_,rfl,Ext.refl _,rfl⟩
  ·intro f w2 hG hp hl;simp only[OpGoal];go_simp;exact⟨_,rfl,Ext.refl _,rfl⟩
  ·intro f w2 hG hp hl;have hE:Ext w1 w2:=hG;have q8:=tE hp 0 3 rfl rfl rfl;have hcell:=(b2_.ext hE).cell 1;simp only[OpGoal];go_simp;exact⟨_,rfl,Ext.refl _,rfl⟩
  ·intro f w2 hG hp hl;have hE:Ext w1 w2:=hG;have hS:=hE.size;have q5:=tellV hp 0 0 rfl rfl (fun _=>hE);have q7:=tE hp 1 2 rfl rfl rfl;have q9:=tE hp 2 4 rfl rfl rfl;change OpGoal _ _ _ f w2 Ext _;refine oC #[f 0,f 2,f 4] Tryz.func81 rfl rfl ?_;rw[q7,q9];refine(vaxpy_calls 1 k k2 (k+k2+1) _ _ _ (((-1:Int)):Rat) l m _ (q5.1.isR q5.2 (by omega)) (HT.out.ext (e1.trans hE)) (HTy.out.ext (e1.trans hE)) (by omega) (by omega) hn hk).mono ?_;rintro e w' ⟨v',rfl,h1,h2⟩;exact⟨v',rfl,h2,h1.mono hS⟩
  ·intro f w2 hG hp hl;have hE:Ext w1 w2:=hG;have q10:=tellV hp 0 5 rfl rfl (fun _=>hE);obtain⟨ad,cap,hv⟩:=TO.val q10;rw[←HQ.out]at hv;simp only[OpGoal];go_simp;exact⟨_,rfl,Ext.refl _,rfl⟩
  ·intro f w2 hG hp hl;have q11:=tE hp 0 6 rfl rfl rfl;simp only[OpGoal];go_simp;exact⟨_,rfl,Ext.refl _,rfl⟩
  ·intro f w2 hG hp hl;have q12:=tE hp 0 7 rfl rfl rfl;simp only[OpGoal];go_simp;exact⟨_,rfl,Ext.refl _,rfl⟩
 ·intro f w2 hG hp;have hE:Ext w1 w2:=ChgS.nil hG
  have q4:f 8= .bool ((q:Int)==0):=endV hp 8 (by decide) rfl (fun h=>by cases h)
  try simp only[q4]
  clear hp;have X:=e1.trans hE;rw[HZ.out];rw[←HL.out];obtain⟨pp,hpp⟩:∃pp,pp=likeC (s,l,x) (s2,m,x2):=⟨_,rfl⟩;rw[←hpp];have HP:=Lib.hid hpp;clear hpp;go_wp2;go_ret
  exact⟨by rw[←HP.out]<;>rfl,X⟩
set_option maxHeartbeats 8000000 in
theorem cfalse_calls(k:Nat)(v:Value)(a:CR)(w:World)(hv:CnR k w v a)(hn:a.2.1.length≤1073741824)(hk:(a.2.1.length+1)*(k+1)≤34359738000):
  Calls Tryz.prog 38 #[v] w fun e w'=>e= .returned (.bool (falseC a))∧Ext w w':=by
 obtain⟨s,l,x⟩:=a
 simp only at hk hn
 have hkk:l.length*(k+1)+(k+1)≤34359738000:=Nat.le_trans (Nat.le_of_eq (Nat.succ_mul ..).symm) hk;obtain⟨a,n,p,b,a1,n1,c1,a2,n2,c2,rfl,ht,hr⟩:=hv.op;have HT:=Lib.hid ht;have HR:=Lib.hid hr;clear ht hr
 have lim:68719476736≤LIM:=by rw[LIM_eq];omega
 obtain⟨q,hq⟩:∃q,q=(mkV l).length:=⟨_,rfl⟩;obtain⟨c0,hc0⟩:∃c,c=sens s:=⟨_,rfl⟩;obtain⟨c1',hc1⟩:∃c,c=((q:Int)==0):=⟨_,rfl⟩;obtain⟨c2',hc2⟩:∃c,c=keptQ s ((0:Int):Rat) x:=⟨_,rfl⟩
 have HF:Hid (falseC (s,l,x)=((c0&&c1')&& !c2')):=Lib.hid (by rw[hc0,hc1,hc2,len_zero hq,Bool.and_assoc];rfl)
 have HQ:=Lib.hid hq;have H0:=Lib.hid hc0;have H1:=hc1.symm;have H2:=Lib.hid hc2;clear hq hc0 hc1 hc2;obtain⟨w1,hw1,e1,b1_,s1⟩:=alloc1 w #[.int .i64 s,.slice a n p,.bool b,.slice a1 n1 c1,.slice a2 n2 c2] 36
 go_enter Tryz.func38,Tryz.ntmps38
 go_wp2_with fail;rw[←hw1];clear hw1;refine wpQ [PP.val (.pointer (some ⟨w.heap.size,0,none⟩)),PP.val (.int .i64 s),PP.val (.bool c0),PP.val (.bool c0),PP.whn c0 (PP.val (.pointer (some ⟨w.heap.size,1,none⟩))),PP.whn c0 (PP.val (.slice a n p)),PP.whn c0 (PP.tO (l.length*(k+1)) (mkV l)),PP.whn c0 (PP.val (.int .i64 (q:Int))),PP.whn c0 (PP.val (.bool c1')),PP.val (.bool (c0&&(c1'))),PP.val (.bool (c0&&(c1'))),PP.whn ((c0&&(c1'))) (PP.val (.pointer (some ⟨w.heap.size,0,none⟩))),PP.whn ((c0&&(c1'))) (PP.val (.int .i64 s)),PP.whn ((c0&&(c1'))) (PP.frQS ((0:Int):Rat) 1),PP.whn ((c0&&(c1'))) (PP.val (.pointer (some ⟨w.heap.size,2,none⟩))),PP.whn ((c0&&(c1'))) (PP.val (.agg #[.bool b,.slice a1 n1 c1,.slice a2 n2 c2])),PP.whn ((c0&&(c1'))) (PP.val (.bool c2')),PP.whn ((c0&&(c1'))) (PP.val (.bool (!(c2')))),PP.val (.bool (((c0&&(c1')))&&((!(c2'))))),PP.val (.bool (((c0&&(c1')))&&((!(c2')))))] [] [0,1,2,3,4,5,6,7,8,9,10,11,12,13,14,15,16,17,18,19] ?_ ?_
 ·refine⟨?_,?_,?_,?_,?_,?_,?_,?_,?_,?_,?_,?_,?_,?_,?_,?_,?_,?_,?_,?_,trivial⟩
  ·intro f w2 hG hp hl;simp only[OpGoal];go_simp;exact⟨_,rfl,Ext.refl _,rfl⟩
  ·intro f w2 hG hp hl;have hE:Ext w1 w2:=hG;have q3:=tE hp 0 0 rfl rfl rfl;have hcell:=(b1_.ext hE).cell 0;simp only[OpGoal];go_simp;exact⟨_,rfl,Ext.refl _,rfl⟩
  ·intro f w2 hG hp hl;have q4:=tE hp 0 1 rfl rfl rfl;change OpGoal _ _ _ f w2 Ext _;refine oC #[f 1] Tryz.func77 rfl rfl ?_;rw[q4];refine(sensible_calls s _).mono ?_;rintro e w' ⟨rfl,h2⟩
   exact⟨_,rfl,h2,by rw[H0.out]<;>rfl⟩
  ·intro f w2 hG hp hl;have q5:=tE hp 0 2 rfl rfl rfl;exact⟨_,rfl,Ext.refl _,q5⟩
  ·intro f w2 hG hp hl;have qg:=tellV hp 0 3 rfl rfl (fun h=>by cases h);refine og_when (p:=(PP.val (.pointer (some ⟨w.heap.size,1,none⟩)):PP _).p) rfl (when_t qg) ?_;intro hg0;clear qg;simp only[OpGoal];go_simp;exact⟨_,rfl,Ext.refl _,rfl⟩
  ·intro f w2 hG hp hl;have hE:Ext w1 w2:=hG;have qg:=tellV hp 1 3 rfl rfl (fun h=>by cases h);refine og_when (p:=(PP.val (.slice a n p):PP _).p) rfl (when_t qg) ?_;intro hg0;clear qg
   have q7:f 4= .pointer (some ⟨w.heap.size,1,none⟩):=(tellV hp 0 4 rfl rfl (fun h=>by cases h)).1 hg0
   have hcell:=(b1_.ext hE).cell 1;simp only[OpGoal];go_simp;exact⟨_,rfl,Ext.refl _,rfl⟩
  ·intro f w2 hG hp hl;have hE:Ext w1 w2:=hG;have hS:=hE.size;have qg:=tellV hp 1 3 rfl rfl (fun h=>by cases h);refine og_when (p:=(PP.tO (l.length*(k+1)) (mkV l):PP _).p) rfl (when_t qg) ?_;intro hg0;clear qg
   have q8:f 5= .slice a n p:=(tellV hp 0 5 rfl rfl (fun h=>by cases h)).1 hg0
   change OpGoal _ _ _ f w2 Ext _;refine oC #[f 5] Tryz.func90 rfl rfl ?_;rw[q8];refine(vmake_calls k _ l _ (HT.out.ext (e1.trans hE)) hn hk).mono ?_;rintro e w' ⟨v',rfl,h1,h2⟩;exact⟨v',rfl,h2,h1.mono hS⟩
  ·intro f w2 hG hp hl;have hE:Ext w1 w2:=hG;have qg:=tellV hp 1 3 rfl rfl (fun h=>by cases h);refine og_when (p:=(PP.val (.int .i64 (q:Int)):PP _).p) rfl (when_t qg) ?_;intro hg0;clear qg;have q9:=(tellV hp 0 6 rfl rfl (fun _=>hE)).1 hg0;obtain⟨ad,cap,hv⟩:=TO.val q9;rw[←HQ.out]at hv;simp only[OpGoal];go_simp;exact⟨_,rfl,Ext.refl _,rfl⟩
  ·intro f w2 hG hp hl;have qg:=tellV hp 1 3 rfl rfl (fun h=>by cases h);refine og_when (p:=(PP.val (.bool c1'):PP _).p) rfl (when_t qg) ?_;intro hg0;clear qg
   have q10:f 7= .int .i64 (q:Int):=(tellV hp 0 7 rfl rfl (fun h=>by cases h)).1 hg0
   simp only[OpGoal];go_simp;exact⟨_,rfl,Ext.refl _,rfl⟩
  ·intro f w2 hG hp hl;have q6:=tE hp 0 3 rfl rfl rfl;have q11:=tellV hp 1 8 rfl rfl (fun h=>by cases h);change OpGoal _ _ _ f w2 Ext _;exact og_pickA (P:=Tryz.prog) _ _ rfl rfl q6 (fun h=>q11.1 (by rw[h])) rfl
  ·intro f w2 hG hp hl;have q12:=tE hp 0 9 rfl rfl rfl;simp only[OpGoal];go_simp;exact⟨_,rfl,Ext.refl _,rfl⟩
  ·intro f w2 hG hp hl;have qg:=tellV hp 0 10 rfl rfl (fun h=>by cases h);refine og_when (p:=(PP.val (.pointer (some ⟨w.heap.size,0,none⟩)):PP _).p) rfl (when_t qg) ?_;intro hg0;clear qg;simp only[OpGoal];go_simp;exact⟨_,rfl,Ext.refl _,rfl⟩
  ·intro f w2 hG hp hl;have hE:Ext w1 w2:=hG;have qg:=tellV hp 1 10 rfl rfl (fun h=>by cases h);refine og_when (p:=(PP.val (.int .i64 s):PP _).p) rfl (when_t qg) ?_;intro hg0;clear qg
   have q14:f 11= .pointer (some ⟨w.heap.size,0,none⟩):=(tellV hp 0 11 rfl rfl (fun h=>by cases h)).1 hg0
   have hcell:=(b1_.ext hE).cell 0;simp only[OpGoal];go_simp;exact⟨_,rfl,Ext.refl _,rfl⟩
  ·intro f w2 hG hp hl;have hE:Ext w1 w2:=hG;have hS:=hE.size;have qg:=tellV hp 0 10 rfl rfl (fun h=>by cases h);refine og_when (p:=(PP.frQS ((0:Int):Rat) 1:PP _).p) rfl (when_t qg) ?_;intro hg0;clear qg;change OpGoal _ _ _ f w2 Ext _;refine oC #[.int .i64 0] Tryz.func78 rfl rfl ?_;refine(rwhole_calls 0 _ (by omega) (by omega)).mono ?_;rintro e w' ⟨v',rfl,h1,h2⟩;exact⟨v',rfl,h2,h1.mono hS,szQ_int0⟩
  ·intro f w2 hG hp hl;have qg:=tellV hp 0 10 rfl rfl (fun h=>by cases h);refine og_when (p:=(PP.val (.pointer (some ⟨w.heap.size,2,none⟩)):PP _).p) rfl (when_t qg) ?_;intro hg0;clear qg;simp only[OpGoal];go_simp;exact⟨_,rfl,Ext.refl _,rfl⟩
  ·intro f w2 hG hp hl;have hE:Ext w1 w2:=hG;have qg:=tellV hp 1 10 rfl rfl (fun h=>by cases h);refine og_when (p:=(PP.val (.agg #[.bool b,.slice a1 n1 c1,.slice a2 n2 c2]):PP _).p) rfl (when_t qg) ?_;intro hg0;clear qg
   have q17:f 14= .pointer (some ⟨w.heap.size,2,none⟩):=(tellV hp 0 14 rfl rfl (fun h=>by cases h)).1 hg0
   have hbx:=b1_.ext hE;have hcell0:=hbx.cell 0;have hcell1:=hbx.cell 1;have hcell2:=hbx.cell 2;have hcell3:=hbx.cell 3;have hcell4:=hbx.cell 4;simp only[OpGoal];go_simp;exact⟨_,rfl,Ext.refl _,rfl⟩
  ·intro f w2 hG hp hl;have hE:Ext w1 w2:=hG;have hS:=hE.size;have qg:=tellV hp 4 10 rfl rfl (fun h=>by cases h);refine og_when (p:=(PP.val (.bool c2'):PP _).p) rfl (when_t qg) ?_;intro hg0;clear qg
   have q15:f 12= .int .i64 s:=(tellV hp 0 12 rfl rfl (fun h=>by cases h)).1 hg0
   have q16:=(tellV hp 1 13 rfl rfl (fun _=>hE)).1 hg0
   have q18:f 15= .agg #[.bool b,.slice a1 n1 c1,.slice a2 n2 c2]:=(tellV hp 2 15 rfl rfl (fun h=>by cases h)).1 hg0
   change OpGoal _ _ _ f w2 Ext _;refine oC #[f 12,f 13,f 15] Tryz.func91 rfl rfl ?_;rw[q15,q18];refine(kept_calls s _ _ ((0:Int):Rat) x 1 k _ (q16.1.isR q16.2 (by omega)) (HR.out.ext (e1.trans hE)) (by omega)).mono ?_;rintro e w' ⟨rfl,h2⟩
   exact⟨_,rfl,h2,by rw[H2.out]<;>rfl⟩
  ·intro f w2 hG hp hl;have qg:=tellV hp 1 10 rfl rfl (fun h=>by cases h);refine og_when (p:=(PP.val (.bool (!(c2'))):PP _).p) rfl (when_t qg) ?_;intro hg0;clear qg
   have q19:f 16= .bool c2':=(tellV hp 0 16 rfl rfl (fun h=>by cases h)).1 hg0
   change OpGoal _ _ _ f w2 Ext _;exact og_not (P:=Tryz.prog) _ _ rfl rfl q19 rfl
  ·intro f w2 hG hp hl;have q13:=tE hp 0 10 rfl rfl rfl;have q20:=tellV hp 1 17 rfl rfl (fun h=>by cases h);change OpGoal _ _ _ f w2 Ext _;exact og_pickA (P:=Tryz.prog) _ _ rfl rfl q13 (fun h=>q20.1 (by rw[h])) rfl
  ·intro f w2 hG hp hl;have q21:=tE hp 0 18 rfl rfl rfl;simp only[OpGoal];go_simp;exact⟨_,rfl,Ext.refl _,rfl⟩
 ·intro f w2 hG hp;have hE:Ext w1 w2:=ChgS.nil hG
  have q2:f 19= .bool (((c0&&(c1')))&&((!(c2')))):=endV hp 19 (by decide) rfl (fun h=>by cases h)
  try simp only[q2]
  clear hp;have X:=e1.trans hE;clear H1;obtain⟨pp,hpp⟩:∃pp,pp=((c0&&c1')&& !c2'):=⟨_,rfl⟩;rw[←hpp];have HP:=Lib.hid hpp;clear hpp;go_wp2;go_ret
  exact⟨by rw[HF.out,←HP.out]<;>rfl,X⟩
section
variable {t:TypeId} {w:World} {g:Nat}
theorem put5{a b c d e:Value}(h:Bx t w g #[a,b,c,d,e])(a' b' c' d' e':Value):∃w1,w1=(((((w.setCell ⟨g,0,none⟩ a').setCell ⟨g,1,none⟩ b').setCell ⟨g,2,none⟩ c').setCell ⟨g,3,none⟩ d').setCell ⟨g,4,none⟩ e')∧Chg g w w1∧Bx t w1 g #[a',b',c',d',e']:=
 ⟨_,rfl,((((Chg.setCell w g 0 _).trans (Chg.setCell _ g 1 _)).trans (Chg.setCell _ g 2 _)).trans (Chg.setCell _ g 3 _)).trans (Chg.setCell _ g 4 _),((((h.set 0 a').set 1 b').set 2 c').set 3 d').set 4 e'⟩
end
end Go.Proofs.YtokfaggcojokgaaGreat
