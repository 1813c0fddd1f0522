/-
 Constraints: plain: what they say, what follows of them. No program is named here.
-/
import Derived.Test.YtbmnlaepfckmkaaGreatCmaZ
namespace Go.Proofs.YtbmnlaepfckmkaaGreat
set_option maxRecDepth 100000
set_option maxHeartbeats 1000000
set_option linter.unusedVariables false
set_option linter.unusedSimpArgs false
abbrev CR:=Int×List (Int×Rat)×Rat
def keptQ(s:Int)(a r:Rat):Bool:=decide ((s=1∧a≤r)∨(s=2∧r≤a)∨(s=3∧a=r))
def isW(x:Rat):Bool:=decide (x=(x.floor:Rat))
open Go.RowKit
abbrev CE:=Int×List TE×RE
def fmC(c:CR):CE:=(c.1,fmV c.2.1,fmQ c.2.2)
def CnR(k:Nat)(w:World)(v:Value)(c:CR):Prop:=∃a n cp b a1 n1 c1 a2 n2 c2,v= .agg #[.int .i64 c.1,.slice a n cp,.bool b,.slice a1 n1 c1,.slice a2 n2 c2]∧TL k w (.slice a n cp) c.2.1∧IsR w (.agg #[.bool b,.slice a1 n1 c1,.slice a2 n2 c2]) c.2.2 k
def CnE(w:World)(v:Value)(c:CE):Prop:=∃a n cp b a1 n1 c1 a2 n2 c2,v= .agg #[.int .i64 c.1,.slice a n cp,.bool b,.slice a1 n1 c1,.slice a2 n2 c2]∧TLE w (.slice a n cp) c.2.1∧RawE w (.agg #[.bool b,.slice a1 n1 c1,.slice a2 n2 c2]) c.2.2
def CnO(B k:Nat)(w:World)(v:Value)(c:CR):Prop:=∃a n cp b a1 n1 c1 a2 n2 c2,v= .agg #[.int .i64 c.1,.slice a n cp,.bool b,.slice a1 n1 c1,.slice a2 n2 c2]∧TO B k w (.slice a n cp) c.2.1∧FrQ B w (.agg #[.bool b,.slice a1 n1 c1,.slice a2 n2 c2]) c.2.2∧szQ c.2.2≤k
theorem CnE.op{w:World}{v:Value}{s:Int}{l:List TE}{x:RE}(h:CnE w v (s,l,x)):∃a n cp b a1 n1 c1 a2 n2 c2,v= .agg #[.int .i64 s,.slice a n cp,.bool b,.slice a1 n1 c1,.slice a2 n2 c2]∧TLE w (.slice a n cp) l∧RawE w (.agg #[.bool b,.slice a1 n1 c1,.slice a2 n2 c2]) x:=h
theorem CnE.ext{w w':World}{v:Value}{c:CE}(h:CnE w v c)(he:Ext w w'):CnE w' v c:=by
 obtain⟨a,n,cp,b,a1,n1,c1,a2,n2,c2,h1,h2,h3⟩:=h;exact⟨a,n,cp,b,a1,n1,c1,a2,n2,c2,h1,h2.ext he,h3.ext he⟩
theorem CnO.ext{B k:Nat}{w w':World}{v:Value}{c:CR}(h:CnO B k w v c)(he:Ext w w'):CnO B k w' v c:=by
 obtain⟨a,n,cp,b,a1,n1,c1,a2,n2,c2,h1,h2,h3,h4⟩:=h;exact⟨a,n,cp,b,a1,n1,c1,a2,n2,c2,h1,h2.ext he,h3.ext he,h4⟩
theorem CnO.chg{B k g:Nat}{w w':World}{v:Value}{c:CR}(h:CnO B k w v c)(hc:Chg g w w')(hg:g<B):CnO B k w' v c:=by
 obtain⟨a,n,cp,b,a1,n1,c1,a2,n2,c2,h1,h2,h3,h4⟩:=h;exact⟨a,n,cp,b,a1,n1,c1,a2,n2,c2,h1,h2.chg hc hg,h3.chg hc hg,h4⟩
theorem CnO.mono{B B' k:Nat}{w:World}{v:Value}{c:CR}(h:CnO B k w v c)(hB:B'≤B):CnO B' k w v c:=by
 obtain⟨a,n,cp,b,a1,n1,c1,a2,n2,c2,h1,h2,h3,h4⟩:=h;exact⟨a,n,cp,b,a1,n1,c1,a2,n2,c2,h1,h2.mono hB,h3.mono hB,h4⟩
theorem CnO.cnR{B k:Nat}{w:World}{v:Value}{c:CR}(h:CnO B k w v c)(hk:k≤LIM):CnR k w v c:=by
 obtain⟨a,n,cp,b,a1,n1,c1,a2,n2,c2,h1,h2,h3,h4⟩:=h;exact⟨a,n,cp,b,a1,n1,c1,a2,n2,c2,h1,h2.tl hk,h3.isR h4 hk⟩
theorem CnO.cnE{B k:Nat}{w:World}{v:Value}{c:CR}(h:CnO B k w v c)(hk:k≤LIM):CnE w v (fmC c):=by
 obtain⟨a,n,cp,b,a1,n1,c1,a2,n2,c2,h1,h2,h3,h4⟩:=h;exact⟨a,n,cp,b,a1,n1,c1,a2,n2,c2,h1,h2.tle hk,h3.rawE (by omega)⟩
def PP.cnO{S:Nat}(k:Nat)(c:CR):PP S:=⟨false,fun u w=>CnO S k w u c,fun _ _ _ h hp=>hp.ext h,fun _ _ hg _ _ _ h hp=>hp.chg h hg⟩
def CL(k:Nat)(w:World)(u:Value)(cs:List CR):Prop:=SL 5 (CnR k) w u cs
def CLE(w:World)(u:Value)(l:List CE):Prop:=SL 5 CnE w u l
theorem SL.mapL{α β:Type}{n:Nat}{R:World→Value→α→Prop}{R':World→Value→β→Prop}{f:α→β}{w:World}{v:Value}{ys:List α}(h:SL n R w v ys)(hR:∀u y,y∈ys→R w u y→R' w u (f y)):SL n R' w v (ys.map f):=by
 obtain⟨ad,cap,h1,h2,h3,h4⟩:=h;refine⟨ad,cap,by rw[List.length_map];exact h1,by rw[List.length_map];exact h2,h3,?_⟩
 rcases h4 with h4 |⟨g,off,h4,h5⟩
 ·exact .inl (by rw[h4];rfl)
 ·refine .inr ⟨g,off,h4,fun i x hx=> ?_⟩;rw[List.getElem?_map]at hx
  cases hy:ys[i]? with
  |none=>rw [hy]at hx;cases hx
  |some y=>
   rw[hy]at hx;simp only[Option.map_some,Option.some.injEq]at hx;subst hx;obtain⟨cs,k1,k2,k3⟩:=h5 i y hy;exact⟨cs,k1,k2,hR _ _ (List.mem_of_getElem? hy) k3⟩
theorem CL.at{k:Nat}{w:World}{u:Value}{cs:List CR}(h:CL k w u cs):∃ad m cap,m=cs.length∧u= .slice ad m cap∧m≤9223372036854775807∧∀(i:Nat) (c:CR),cs[i]? =some c→∃g off,ad=some ⟨g,off,none⟩∧∃a n cp b a1 n1 c1 a2 n2 c2,
  (∀wz,Ext w wz→wz.cell? ⟨g,off+i*5,none⟩=some (.int .i64 c.1)∧wz.cell? ⟨g,off+i*5+1,none⟩=some (.slice a n cp)∧wz.cell? ⟨g,off+i*5+2,none⟩=some (.bool b)∧wz.cell? ⟨g,off+i*5+3,none⟩=some (.slice a1 n1 c1)∧wz.cell? ⟨g,off+i*5+4,none⟩=some (.slice a2 n2 c2))∧
  TL k w (.slice a n cp) c.2.1∧IsR w (.agg #[.bool b,.slice a1 n1 c1,.slice a2 n2 c2]) c.2.2 k:=by
 obtain⟨ad,m,cap,h1,h2,h3,h4⟩:=h.opn;refine⟨ad,m,cap,h1,h2,h3,fun i c hi=> ?_⟩;obtain⟨g,off,k1,xs,k2,k3,a,n,cp,b,a1,n1,c1,a2,n2,c2,j1,j2,j3⟩:=h4 i c hi
 cases j1
 exact⟨g,off,k1,a,n,cp,b,a1,n1,c1,a2,n2,c2,fun wz hz=>⟨k3 wz hz 0 _ rfl,k3 wz hz 1 _ rfl,k3 wz hz 2 _ rfl,k3 wz hz 3 _ rfl,k3 wz hz 4 _ rfl⟩,j2,j3⟩
theorem CLE.at{w:World}{u:Value}{l:List CE}(h:CLE w u l):∃ad m cap,m=l.length∧u= .slice ad m cap∧m≤9223372036854775807∧∀(i:Nat) (c:CE),l[i]? =some c→∃g off,ad=some ⟨g,off,none⟩∧∃a n cp b a1 n1 c1 a2 n2 c2,n1=c.2.2.2.1.length∧n2=c.2.2.2.2.length∧
  (∀wz,Ext w wz→wz.cell? ⟨g,off+i*5,none⟩=some (.int .i64 c.1)∧wz.cell? ⟨g,off+i*5+1,none⟩=some (.slice a n cp)∧wz.cell? ⟨g,off+i*5+2,none⟩=some (.bool b)∧wz.cell? ⟨g,off+i*5+3,none⟩=some (.slice a1 n1 c1)∧wz.cell? ⟨g,off+i*5+4,none⟩=some (.slice a2 n2 c2))∧
  TLE w (.slice a n cp) c.2.1∧RawE w (.agg #[.bool b,.slice a1 n1 c1,.slice a2 n2 c2]) c.2.2:=by
 obtain⟨ad,m,cap,h1,h2,h3,h4⟩:=h.opn;refine⟨ad,m,cap,h1,h2,h3,fun i c hi=> ?_⟩;obtain⟨g,off,k1,xs,k2,k3,a,n,cp,b,a1,n1,c1,a2,n2,c2,j1,j2,j3⟩:=h4 i c hi
 cases j1
 obtain⟨b1,m1,d1,b2,m2,d2,i1,i2,i3⟩:=RawQ.opn2 j3.1
 cases i3
 exact⟨g,off,k1,a,n,cp,_,_,_,_,_,_,_,i1,i2,fun wz hz=>⟨k3 wz hz 0 _ rfl,k3 wz hz 1 _ rfl,k3 wz hz 2 _ rfl,k3 wz hz 3 _ rfl,k3 wz hz 4 _ rfl⟩,j2,j3⟩
def BL(w:World)(u:Value)(bs:List Bool):Prop:=SV (fun _ v b=>v= .bool b) w u bs
theorem BL.ext{w w':World}{u:Value}{bs:List Bool}(h:BL w u bs)(he:Ext w w'):BL w' u bs:=SV.ext (fun _ _ h=>h) h he
theorem BL.at{w:World}{u:Value}{bs:List Bool}(h:BL w u bs):∃ad m cap,m=bs.length∧u= .slice ad m cap∧m≤9223372036854775807∧∀(i:Nat) (b:Bool),bs[i]? =some b→∃g off,ad=some ⟨g,off,none⟩∧∀wz,Ext w wz→wz.cell? ⟨g,off+i,none⟩=some (.bool b):=by
 obtain⟨ad,m,cap,h1,h2,h3,h4⟩:=h.opn;refine⟨ad,m,cap,h1,h2,h3,fun i b hi=> ?_⟩;obtain⟨g,off,k1,v,k2,rfl⟩:=h4 i b hi;exact⟨g,off,k1,k2⟩
def PP.whn{S:Nat}(g:Bool)(q:PP S):PP S:=⟨q.c,fun u w=>(g=true→q.p u w)∧(g=false→u=undef),fun a b c h hp=>⟨fun hg=>q.m a b c h (hp.1 hg),hp.2⟩,fun hc x hx a b c h hp=>⟨fun hg=>q.m2 hc x hx a b c h (hp.1 hg),hp.2⟩⟩
theorem when_t{v:Value}{c:Bool}(h:v= .bool c):v= .bool true↔c=true:=by
 subst h;exact⟨fun h=>(by injection h),fun h=>(by rw[h])⟩
theorem when_f{v:Value}{c:Bool}(h:v= .bool c):v= .bool false↔(!c)=true:=by
 subst h
 exact⟨fun h=>(by injection h with h;rw[h];rfl),fun h=>by (cases c<;>first |rfl |cases h)⟩
theorem when_in{v:Value}{g c:Bool}(h:(g=true→v= .bool c)∧(g=false→v=undef)):v= .bool true↔(g&&c)=true:=by
 cases g
 ·rw[h.2 rfl];exact⟨fun h=>(by cases h),fun h=>(by cases h)⟩
 ·rw[h.1 rfl];exact⟨fun h=>(by injection h),fun h=>(by rw[show c=true from h])⟩
theorem og_when{P:Program}{o:Oper}{a:Act}{f:Nat→Value}{w:World}{R:World→World→Prop}{p:Value→World→Prop}{j:Nat}{want g:Bool}(hg:o.guard=some (j,want))(hw:f j= .bool want↔g=true)(h:g=true→OpGoal P {o with guard:=none} a f w R p):
  OpGoal P o a f w R (fun u w=>(g=true→p u w)∧(g=false→u=undef)):=by
 unfold OpGoal;rw[hg];refine⟨fun hf=> ?_,fun hf=>⟨fun h1=>absurd (hw.2 h1) hf,fun _=>rfl⟩⟩;have hgt:=hw.1 hf
 have:=h hgt
 unfold OpGoal at this
 simp only at this
 refine Oper.wp_mono (fun e w1 hw1=> ?_) this;obtain⟨v,h1,h2,h3⟩:=hw1;exact⟨v,h1,h2,fun _=>h3,fun h4=>by rw[hgt]at h4;cases h4⟩
section
variable {P:Program} {o:Oper} {a:Act} {f:Nat→Value} {w:World} {post:Value→World→Prop}
theorem og_pickA(x y:Operand){c d:Bool}(hgd:o.guard=none)(ho:o.op= .pick x y (.const (.bool false)))(hx:a.eval x= .bool c)(hy:c=true→a.eval y= .bool d)(hp:post (.bool (c&&d)) w):OpGoal P o a f w Ext post:=by
 unfold OpGoal;rw[hgd];unfold Oper.wp execOp
 cases c
 ·simp only[ho,hx];exact⟨_,rfl,Ext.refl w,hp⟩
 ·have hy:=hy rfl;simp only[ho,hx,hy];exact⟨_,rfl,Ext.refl w,hp⟩
theorem og_pickO(x y:Operand){c d:Bool}(hgd:o.guard=none)(ho:o.op= .pick x (.const (.bool true)) y)(hx:a.eval x= .bool c)(hy:c=false→a.eval y= .bool d)(hp:post (.bool (c || d)) w):OpGoal P o a f w Ext post:=by
 unfold OpGoal;rw[hgd];unfold Oper.wp execOp
 cases c
 ·have hy:=hy rfl;simp only[ho,hx,hy];exact⟨_,rfl,Ext.refl w,hp⟩
 ·simp only[ho,hx];exact⟨_,rfl,Ext.refl w,hp⟩
theorem og_not(t:TypeId)(x:Operand){c:Bool}(hgd:o.guard=none)(ho:o.op= .unOp .not t x)(hx:a.eval x= .bool c)(hp:post (.bool (!c)) w):OpGoal P o a f w Ext post:=by
 unfold OpGoal;rw[hgd];unfold Oper.wp execOp;simp only[ho,hx];exact⟨_,rfl,Ext.refl w,hp⟩
end
theorem kept_3(a r:Rat):keptQ 3 a r=(cmpR a r==0):=by
 unfold keptQ;rw[Bool.eq_iff_iff,decide_eq_true_iff,beq_iff_eq];have h0:=cmpR_swap r a
 constructor
 ·rintro(⟨h, -⟩ |⟨h, -⟩ |⟨-,h⟩)
  ·omega
  ·omega
  ·subst h;unfold cmpR;rw[if_neg Rat.lt_irrefl,if_pos rfl]
 ·intro h;have h1:a≤r:=cmpR_le.1 (by omega);have h2:r≤a:=cmpR_le.1 (by omega);exact .inr (.inr ⟨rfl,Rat.le_antisymm h1 h2⟩)
theorem szQ_int1:szQ ((1:Int):Rat)≤1:=by decide+kernel
section
variable {t:TypeId} {w:World} {g:Nat}
end
section
variable {P:Program} {o:Oper} {a:Act} {f:Nat→Value} {w:World} {post:Value→World→Prop}
theorem run_storeS{P:Program}(w:World)(g off:Nat)(t ty:TypeId)(cur:List Value)(ad:Option Addr)(n c:Nat)(hg:w.heap[g]? =some (.cells cur.toArray t (0,0)))(hi:(P.info? ty).map (·.size)=some 1)(hfit:off<cur.length):
  (storeVar ty ⟨g,off,none⟩ (.slice ad n c)).run P w= .ok () (w.setRow g (cur.set off (.slice ad n c)).toArray):=by
 have hst:=run_storeCells_at P g off t [.slice ad n c] 0 cur.toArray w hg (by simp;omega) (fun u hu=>by
  have:u= .slice ad n c:=by simpa using hu
  subst this
  rfl)
 cases hq:P.info? ty with
 |none=>simp [hq]at hi
 |some i=>
  have hs:i.size=1:=by simpa[hq]using hi
  have hc:(Value.slice ad n c).cells=#[.slice ad n c]:=rfl
  have hset:cur.set off (.slice ad n c)=cur.take off++ .slice ad n c::cur.drop (off+1):=by rw[List.set_eq_take_append_cons_drop,if_pos hfit]
  simp only[Nat.add_zero]at hst
  simp[storeVar,sizeOf,typeInfo,hq,hc,hs,hset,hst]
end
theorem ChgS.one{g:Nat}{w w':World}(h:ChgS [g] w w'):Chg g w w':=⟨h.1,h.2.1,h.2.2.1,h.2.2.2.1,fun k hk n=>h.2.2.2.2 k hk (fun hm=>by rw[List.mem_singleton]at hm;subst hm;exact n rfl)⟩
theorem cmpR_zero{a b:Rat}:(cmpR a b==0)=decide (a=b):=by
 rw[←kept_3];unfold keptQ;rw[decide_eq_decide]
 constructor
 ·rintro(⟨h, -⟩ |⟨h, -⟩ |⟨-,h⟩)
  ·omega
  ·omega
  ·exact h
 ·exact fun h=> .inr (.inr ⟨rfl,h⟩)
end Go.Proofs.YtbmnlaepfckmkaaGreat
