/-
 Vectors: a times one, and another one (vec.Axpy, vec.Scale); a list as a vector (vec.Gather).
-/
import Derived.Test.YtbmnlaepfckmkaaGreatVfcZ
import Derived.Test.YtbmnlaepfckmkaaGreatSsbZ
import Derived.Deep.Strs
import Derived.Maps.AppendAt
namespace Go.Proofs.YtbmnlaepfckmkaaGreat
set_option maxRecDepth 100000
set_option maxHeartbeats 1000000
open Go.RowKit
set_option linter.unusedVariables false
set_option linter.unusedSimpArgs false
theorem szQ_zero:szQ 0≤1:=by decide+kernel
theorem putV_len(c:Int)(q:Rat):∀l:List (Int×Rat),(putV c q l).length≤l.length+1
 | []=>by simp[putV]
 |x::l=>by
  unfold putV
  split
  ·simp
  ·split
   ·simp
   ·have:=putV_len c q l
    simp
    omega
theorem mkV_len(l:List (Int×Rat)):(mkV l).length≤l.length:=by
 have h:∀l:List (Int×Rat),(upV l).length≤l.length:=fun l=>by
  induction l with
  |nil=>simp [upV]
  |cons x l ih=>
   unfold upV
   split
   ·have:=putV_len x.1 x.2 (upV l)
    simp
    omega
   ·simp
    omega
 unfold mkV nz;exact Nat.le_trans (List.length_filter_le ..) (h l)
theorem sz_sum{k:Nat}{l:List (Int×Rat)}(h:∀x∈l,szQ x.2≤k)(c:Int):szQ (sumAt l c)≤l.length*(k+1)+1:=by
 induction l with
 |nil=>simpa [sumAt]using szQ_zero
 |cons x l ih=>
  have i:=ih fun y hy=>h y (List.mem_cons_of_mem _ hy)
  have hx:=h x (List.mem_cons_self ..);rw[List.length_cons,Nat.succ_mul];unfold sumAt
  split
  ·have:=szQ_add hx i
   omega
  ·rw[Rat.zero_add]
   omega
theorem sz_get{k:Nat}{l:List (Int×Rat)}(h:∀x∈l,szQ x.2≤k)(c:Int):szQ (getV l c)≤l.length*(k+1)+1:=by
 unfold getV
 split
 ·exact sz_sum h c
 ·have:=szQ_zero
  omega
theorem TL.szs{k:Nat}{w:World}{v:Value}{l:List (Int×Rat)}(h:TL k w v l):∀x∈l,szQ x.2≤k:=by
 intro x hx;obtain⟨i,hi,rfl⟩:=List.getElem_of_mem hx;obtain⟨ad,m,cap, -, -, -,h4⟩:=h.at;obtain⟨g,off, -,b,a1,n1,c1,a2,n2,c2,hc⟩:=h4 i _ (List.getElem?_eq_getElem hi);exact(hc w (Ext.refl w)).2.2.2.2.sz
abbrev RE:=Bool×List Nat×List Nat
abbrev TE:=Int×RE
def TmE(w:World)(v:Value)(e:TE):Prop:=∃b a1 n1 c1 a2 n2 c2,v= .agg #[.int .i64 e.1,.bool b,.slice a1 n1 c1,.slice a2 n2 c2]∧RawE w (.agg #[.bool b,.slice a1 n1 c1,.slice a2 n2 c2]) e.2
theorem TmE.ext{w w':World}{v:Value}{e:TE}(h:TmE w v e)(he:Ext w w'):TmE w' v e:=by
 obtain⟨b,a1,n1,c1,a2,n2,c2,h1,h2⟩:=h;exact⟨b,a1,n1,c1,a2,n2,c2,h1,h2.ext he⟩
def TLE(w:World)(u:Value)(l:List TE):Prop:=SL 4 TmE w u l
theorem TLE.ext{w w':World}{u:Value}{l:List TE}(h:TLE w u l)(he:Ext w w'):TLE w' u l:=SL.ext (fun _ _ h=>h.ext he) h he
theorem TLE.at{w:World}{u:Value}{l:List TE}(h:TLE w u l):∃ad m cap,m=l.length∧u= .slice ad m cap∧m≤9223372036854775807∧∀(i:Nat) (e:TE),l[i]? =some e→∃g off,ad=some ⟨g,off,none⟩∧∃b a1 n1 c1 a2 n2 c2,n1=e.2.2.1.length∧n2=e.2.2.2.length∧
  (∀wz,Ext w wz→∀(j:Nat) (v:Value),(#[.int .i64 e.1,.bool b,.slice a1 n1 c1,.slice a2 n2 c2]:Array Value)[j]? =some v→wz.cell? ⟨g,off+i*4+j,none⟩=some v)∧RawE w (.agg #[.bool b,.slice a1 n1 c1,.slice a2 n2 c2]) e.2:=by
 obtain⟨ad,m,cap,h1,h2,h3,h4⟩:=h.opn;refine⟨ad,m,cap,h1,h2,h3,fun i e hi=> ?_⟩;obtain⟨g,off,k1,cs,k2,k3,b,a1,n1,c1,a2,n2,c2,j1,j2⟩:=h4 i e hi
 cases j1
 obtain⟨b1,m1,d1,b2,m2,d2,i1,i2,i3⟩:=RawQ.opn2 j2.1
 cases i3
 exact⟨g,off,k1,_,_,_,_,_,_,_,i1,i2,k3,j2⟩
theorem cells3{w:World}{g o:Nat}{x b s t:Value}(h:∀wz,Ext w wz→∀(j:Nat) (v:Value),(#[x,b,s,t]:Array Value)[j]? =some v→wz.cell? ⟨g,o+j,none⟩=some v):∀wz,Ext w wz→∀(j:Nat) (v:Value),(#[b,s,t]:Array Value)[j]? =some v→wz.cell? ⟨g,o+1+j,none⟩=some v:=by
 intro wz hz j v hj
 have:=h wz hz (1+j) v (by
  match j,hj with
  |0,hj=>exact hj
  |1,hj=>exact hj
  |2,hj=>exact hj
  |j+3,hj=>simp at hj)
 rwa [←Nat.add_assoc]at this
theorem TLE.tl{w:World}{u:Value}{l:List TE}(h:TLE w u l)(k:Nat)(hk:1≤k)(hk2:k≤LIM)(hl:∀e∈l,e.2.2.1.length+e.2.2.2.length≤k):TL k w u (l.map fun e=>(e.1,ratE e.2)):=by
 obtain⟨ad,cap,h1,h2,h3,h4⟩:=h;refine⟨ad,cap,by rw[List.length_map];exact h1,by rw[List.length_map];exact h2,h3,?_⟩
 rcases h4 with h4 |⟨g,off,h4,h5⟩
 ·exact .inl (by rw[h4];rfl)
 ·refine .inr ⟨g,off,h4,fun i x hi=> ?_⟩;rw[List.getElem?_map]at hi
  cases he:l[i]? with
  |none=>rw [he]at hi;cases hi
  |some e=>
   rw[he]at hi;simp only[Option.map_some,Option.some.injEq]at hi;subst hi;obtain⟨cs,k1,k2,b,a1,n1,c1,a2,n2,c2,k3,k4⟩:=h5 i e he
   have:=hl e (List.mem_of_getElem? he)
   exact⟨cs,k1,k2,b,a1,n1,c1,a2,n2,c2,k3,k4.1.isR k4.2.1 k4.2.2.1 k (by omega) (by omega) hk hk2⟩
def fmQ(q:Rat):RE:=(decide (q.num<0),dg W q.num.natAbs,dg W q.den)
def fmV(m:List (Int×Rat)):List TE:=m.map fun x=>(x.1,fmQ x.2)
theorem FrQ.rawE{B:Nat}{w:World}{v:Value}{q:Rat}(h:FrQ B w v q)(hs:szQ q≤LIM):RawE w v (fmQ q):=by
 refine⟨h.raw,(dg_can W_gt _).1,(dg_can W_gt _).1,?_⟩;have h1:=Nat.max_le.1 hs;have h2:(dg W q.num.natAbs).length≤LIM:=h1.1;have h3:(dg W q.den).length≤LIM:=h1.2;rw[LIM_eq]at h2 h3
 show(dg W q.num.natAbs).length+(dg W q.den).length≤_
 omega
theorem TO.tle{B k:Nat}{w:World}{v:Value}{m:List (Int×Rat)}(h:TO B k w v m)(hk:k≤LIM):TLE w v (fmV m):=by
 obtain⟨ts,h1,h2,h3⟩:=h;obtain⟨ad,cap,e1,e2,e3, -⟩:=h2.opn
 have hl:(ts.map tmv).length=(fmV m).length:=by unfold fmV;simp[h1]
 rw[hl]at e1 e2;refine⟨ad,cap,e1,e2,e3,?_⟩
 rcases Nat.eq_zero_or_pos (fmV m).length with h0 |h0
 ·exact .inl (List.eq_nil_of_length_eq_zero h0)
 ·obtain⟨g,cap',rest,f1,f2, -⟩:=h2.hold (by omega);rw[e1]at f1;simp only[Value.slice.injEq]at f1;obtain⟨f1, -, -⟩:=f1;refine .inr ⟨g,0,f1,fun i e hi=> ?_⟩;unfold fmV at hi;rw[List.getElem?_map]at hi
  cases hx:m[i]? with
  |none=>rw [hx]at hi;cases hi
  |some x=>
   rw[hx]at hi;simp only[Option.map_some,Option.some.injEq]at hi;subst hi;obtain⟨t,ht⟩:∃t,ts[i]? =some t:=⟨_,List.getElem?_eq_getElem (by have:=(List.getElem?_eq_some_iff.1 hx).1;omega)⟩;obtain⟨c1,c2,c3⟩:=h3 i t x ht hx;obtain⟨g',cap2,j1,j2,cs,j3,j4,j5,j6⟩:=h2.at (by omega) (i:=i) (u:=tmv t) (by rw[List.getElem?_map,ht];rfl);rw[e1]at j1;simp only[Value.slice.injEq,f1,Option.some.injEq,Addr.mk.injEq]at j1;obtain⟨⟨rfl, -⟩, -⟩:=j1;refine⟨cs,j4,fun j u hj=> ?_,?_⟩
   ·rw[Nat.zero_add];exact(j6 w (Ext.refl w) j u hj).1
   ·unfold tmv at j3
    cases j3
    exact⟨_,_,_,_,_,_,_,by rw[c1],c2.rawE (by omega)⟩
def OL{α:Type}(t:TypeId)(n B:Nat)(R:World→Value→α→Prop)(w:World)(v:Value)(ys:List α):Prop:=∃vs,LS t n B w v vs∧vs.length=ys.length∧∀(i:Nat) (u:Value) (y:α),vs[i]? =some u→ys[i]? =some y→R w u y
theorem LS.ge{e:TypeId}{n B:Nat}{w:World}{v:Value}{vs:List Value}(h:LS e n B w v vs):∀g,v.ownBlock=some g→B≤g:=by
 intro g hg
 rcases h.2.2 with⟨h1,h2⟩ |⟨g',cap,cur,h1,h2,h3,h4⟩
 ·rw[h1]at hg;cases hg
 ·rw[h1]at hg;simp only[Value.ownBlock,Option.some.injEq]at hg;subst hg;exact h2
theorem OL.nil{α:Type}(t:TypeId)(n B:Nat)(R:World→Value→α→Prop)(w:World):OL t n B R w (.slice none 0 0) []:=⟨[],LS.nil _ _ _ _,rfl,fun i u y h=>by simp at h⟩
theorem OL.ext{α:Type}{t:TypeId}{n B:Nat}{R:World→Value→α→Prop}{w w':World}{v:Value}{ys:List α}(h:OL t n B R w v ys)(he:Ext w w')(hR:∀u y,R w u y→R w' u y):OL t n B R w' v ys:=by
 obtain⟨vs,h1,h2,h3⟩:=h;exact⟨vs,h1.ext he,h2,fun i u y a b=>hR u y (h3 i u y a b)⟩
theorem OL.app{α:Type}{t:TypeId}{n B:Nat}{R:World→Value→α→Prop}{w w':World}{v':Value}{vs:List Value}{ys:List α}{u:Value}{y:α}(h2:vs.length=ys.length)(h3:∀(i:Nat) (u:Value) (y:α),vs[i]? =some u→ys[i]? =some y→R w u y)(hLS:LS t n B w' v' (vs++ [u]))(hR:∀u y,R w u y→R w' u y)(hn:R w' u y):OL t n B R w' v' (ys++ [y]):=by
 refine⟨_,hLS,by simp[h2],fun i a b ha hb=> ?_⟩
 rcases Nat.lt_or_ge i vs.length with hi |hi
 ·rw[List.getElem?_append_left hi]at ha;rw[List.getElem?_append_left (by omega)]at hb;exact hR _ _ (h3 i a b ha hb)
 ·rw[List.getElem?_append_right hi]at ha;rw[List.getElem?_append_right (by omega),←h2]at hb
  cases hz:i - vs.length with
  |zero=>
   rw[hz]at ha hb
   simp at ha hb
   subst ha hb;exact hn
  |succ k=>rw [hz]at ha;simp at ha
theorem OL.sl{α:Type}{t:TypeId}{n B:Nat}{R:World→Value→α→Prop}{w:World}{v:Value}{ys:List α}(h:OL t n B R w v ys)(hn:0<n):SL n R w v ys:=by
 obtain⟨vs,h2,hl,h3⟩:=h;obtain⟨ad,cap,e1,e2,e3, -⟩:=h2.opn;rw[hl]at e1 e2;refine⟨ad,cap,e1,e2,e3,?_⟩
 rcases Nat.eq_zero_or_pos ys.length with h0 |h0
 ·exact .inl (List.eq_nil_of_length_eq_zero h0)
 ·obtain⟨g,cap',rest,f1,f2, -⟩:=h2.hold (by omega);rw[e1]at f1;simp only[Value.slice.injEq]at f1;obtain⟨f1, -, -⟩:=f1;refine .inr ⟨g,0,f1,fun i y hi=> ?_⟩;obtain⟨u,hu⟩:∃u,vs[i]? =some u:=⟨_,List.getElem?_eq_getElem (by have:=(List.getElem?_eq_some_iff.1 hi).1;omega)⟩;obtain⟨g',cap2,j1,j2,cs,j3,j4,j5,j6⟩:=h2.at hn hu;rw[e1]at j1;simp only[Value.slice.injEq,f1,Option.some.injEq,Addr.mk.injEq]at j1;obtain⟨⟨rfl, -⟩, -⟩:=j1;refine⟨cs,j4,fun j x hj=> ?_,j3▸h3 i u y hu hi⟩;rw[Nat.zero_add];exact(j6 w (Ext.refl w) j x hj).1
theorem SL.map{α:Type}{n:Nat}{R R':World→Value→α→Prop}{w:World}{v:Value}{ys:List α}(h:SL n R w v ys)(hR:∀u y,R w u y→R' w u y):SL n R' w v ys:=by
 obtain⟨ad,cap,e1,e2,e3,e4⟩:=h;refine⟨ad,cap,e1,e2,e3,?_⟩
 rcases e4 with e4 |⟨g,off,e4,e5⟩
 ·exact .inl e4
 ·exact .inr ⟨g,off,e4,fun i y hi=>(let ⟨cs,a,b,c⟩:=e5 i y hi;⟨cs,a,b,hR _ _ c⟩)⟩
set_option maxHeartbeats 4000000 in
theorem vsame_calls(v u:Value)(l m:List TE)(w:World)(hv:TLE w v l)(hu:TLE w u m):
  Calls Tryz.prog 23 #[v,u] w fun e w'=>e= .returned (.bool (decide (l=m)))∧Ext w w':=by
 obtain⟨ad,n,cap,hn,rfl,hn1,hat⟩:=hv.at;obtain⟨ad2,n2,cap2,hm,rfl,hm1,hat2⟩:=hu.at;have HN:=Lib.hid hn;have HM:=Lib.hid hm;have HAT:=Lib.hid hat;have HAT2:=Lib.hid hat2;clear hn hm hat hat2 hv hu
 go_enter Tryz.func23,Tryz.ntmps23
 by_cases hnm:n=n2
 ·subst hnm
  have hz:¬((n:Int)≠(n:Int)):=by simp
  go_wp2_with fail
  go_loopw [5] (fun s wr=>∃i:Nat,i≤n∧s= .int .i64 (i:Int)∧Hid (l.take i=m.take i)∧Ext w wr) (fun s _=>((n:Int) - intOf s).toNat)
  case atStart=>exact ⟨0,Nat.zero_le _,rfl,Lib.hid rfl,Ext.refl _⟩
  case round=>
   obtain⟨i,hi,rfl,hT,hE0⟩:=hrel
   rcases Nat.eq_or_lt_of_le hi with hin |hin
   ·subst hin
    have hlt:¬((i:Int)<(i:Int)):=by omega
    have he:l=m:=by have:=hT.out;rwa [HN.out,List.take_length,←HN.out,HM.out,List.take_length]at this
    have HR:=Lib.hid (decide_eq_true he);clear he;go_wp2;go_ret
    exact⟨by rw[HR.out]<;>rfl,hE0⟩
   ·have hlt:(i:Int)<(n:Int):=by omega
    obtain⟨⟨xc,xe⟩,hx⟩:∃x,l[i]? =some x:=⟨_,List.getElem?_eq_getElem (by rw[←HN.out];exact hin)⟩;obtain⟨⟨yc,ye⟩,hy⟩:∃x,m[i]? =some x:=⟨_,List.getElem?_eq_getElem (by rw[←HM.out];exact hin)⟩;obtain⟨g,off,rfl,b1,a1,n1,c1,a2,n2,c2, -, -,hc,hR⟩:=HAT.out i _ hx;obtain⟨g',off',rfl,b1',a1',n1',c1',a2',n2',c2', -, -,hc',hR'⟩:=HAT2.out i _ hy
    simp only at hc hR hc' hR'
    have HC3:=Lib.hid (cells3 hc);have HC3':=Lib.hid (cells3 hc')
    have HC0:Hid (∀wz,Ext w wz→wz.cell? ⟨g,off+i*4,none⟩=some (.int .i64 xc)):=Lib.hid fun wz hz=>hc wz hz 0 _ rfl
    have HC0':Hid (∀wz,Ext w wz→wz.cell? ⟨g',off'+i*4,none⟩=some (.int .i64 yc)):=Lib.hid fun wz hz=>hc' wz hz 0 _ rfl
    have HR:=Lib.hid hR;have HR':=Lib.hid hR';have HXY:=Lib.hid (And.intro hx hy);obtain⟨xb,xs,xt⟩:=xe;obtain⟨yb,ys,yt⟩:=ye;clear hc hc' hR hR' hx hy
    by_cases hxy:xc=yc
    ·subst hxy;obtain⟨s,hs⟩:∃s:Bool,s=decide ((xb=yb∧xs=ys)∧xt=yt):=⟨_,rfl⟩;have HS:=Lib.hid hs;clear hs;go_wp2_with fail;refine wpQ [PP.val (.slice (some ⟨g,off,none⟩) n cap),PP.val (.int .i64 (i:Int)),PP.val (.pointer (some ⟨g,off+i*4,none⟩)),PP.val (.pointer (some ⟨g,off+i*4,none⟩)),PP.val (.int .i64 xc),PP.val (.slice (some ⟨g',off',none⟩) n cap2),PP.val (.int .i64 (i:Int)),PP.val (.pointer (some ⟨g',off'+i*4,none⟩)),PP.val (.pointer (some ⟨g',off'+i*4,none⟩)),PP.val (.int .i64 xc),PP.val (.bool false),PP.val (.bool false),PP.val (.slice (some ⟨g,off,none⟩) n cap),PP.val (.int .i64 (i:Int)),PP.val (.pointer (some ⟨g,off+i*4,none⟩)),PP.val (.pointer (some ⟨g,off+i*4+1,none⟩)),PP.val (.agg #[.bool b1,.slice a1 n1 c1,.slice a2 n2 c2]),PP.val (.slice (some ⟨g',off',none⟩) n cap2),PP.val (.int .i64 (i:Int)),PP.val (.pointer (some ⟨g',off'+i*4,none⟩)),PP.val (.pointer (some ⟨g',off'+i*4+1,none⟩)),PP.val (.agg #[.bool b1',.slice a1' n1' c1',.slice a2' n2' c2']),PP.val (.bool s),PP.val (.bool (!s)),PP.val (.bool (!s))] [] [0,1,2,3,4,5,6,7,8,9,10,11,12,13,14,15,16,17,18,19,20,21,22,23,24] ?_ ?_
     ·refine⟨?_,?_,?_,?_,?_,?_,?_,?_,?_,?_,?_,?_,?_,?_,?_,?_,?_,?_,?_,?_,?_,?_,?_,?_,?_,trivial⟩
      ·intro f w6 hG hp hl;simp only[OpGoal];go_simp;exact⟨_,rfl,Ext.refl _,rfl⟩
      ·intro f w6 hG hp hl;simp only[OpGoal];go_simp;exact⟨_,rfl,Ext.refl _,rfl⟩
      ·intro f w6 hG hp hl;have q17:=tE hp 0 0 rfl rfl rfl;have q18:=tE hp 1 1 rfl rfl rfl;simp only[OpGoal];go_simp;exact⟨_,rfl,Ext.refl _,rfl⟩
      ·intro f w6 hG hp hl;have q19:=tE hp 0 2 rfl rfl rfl;simp only[OpGoal];go_simp;exact⟨_,rfl,Ext.refl _,rfl⟩
      ·intro f w6 hG hp hl;have hE:Ext wr w6:=hG;have q20:=tE hp 0 3 rfl rfl rfl;have hcell:=HC0.out _ (hE0.trans hE);simp only[OpGoal];go_simp;exact⟨_,rfl,Ext.refl _,rfl⟩
      ·intro f w6 hG hp hl;simp only[OpGoal];go_simp;exact⟨_,rfl,Ext.refl _,rfl⟩
      ·intro f w6 hG hp hl;simp only[OpGoal];go_simp;exact⟨_,rfl,Ext.refl _,rfl⟩
      ·intro f w6 hG hp hl;have q22:=tE hp 0 5 rfl rfl rfl;have q23:=tE hp 1 6 rfl rfl rfl;simp only[OpGoal];go_simp;exact⟨_,rfl,Ext.refl _,rfl⟩
      ·intro f w6 hG hp hl;have q24:=tE hp 0 7 rfl rfl rfl;simp only[OpGoal];go_simp;exact⟨_,rfl,Ext.refl _,rfl⟩
      ·intro f w6 hG hp hl;have hE:Ext wr w6:=hG;have q25:=tE hp 0 8 rfl rfl rfl;have hcell:=HC0'.out _ (hE0.trans hE);simp only[OpGoal];go_simp;exact⟨_,rfl,Ext.refl _,rfl⟩
      ·intro f w6 hG hp hl;have q21:=tE hp 0 4 rfl rfl rfl;have q26:=tE hp 1 9 rfl rfl rfl;simp only[OpGoal];go_simp
       first
       |exact ⟨_,rfl,Ext.refl _,rfl⟩
       |exact ⟨_,rfl,Ext.refl _,congrArg Value.bool (by simp)⟩
      ·intro f w6 hG hp hl;have q27:=tE hp 0 10 rfl rfl rfl;simp only[OpGoal];go_simp;exact⟨_,rfl,Ext.refl _,rfl⟩
      ·intro f w6 hG hp hl;have qg:=tE hp 0 11 rfl rfl rfl;change OpGoal _ _ _ f w6 Ext _;refine og_guard (j:=11) (want:=false) rfl qg ?_;simp only[OpGoal];go_simp;exact⟨_,rfl,Ext.refl _,rfl⟩
      ·intro f w6 hG hp hl;have qg:=tE hp 0 11 rfl rfl rfl;change OpGoal _ _ _ f w6 Ext _;refine og_guard (j:=11) (want:=false) rfl qg ?_;simp only[OpGoal];go_simp;exact⟨_,rfl,Ext.refl _,rfl⟩
      ·intro f w6 hG hp hl;have q29:=tE hp 0 12 rfl rfl rfl;have q30:=tE hp 1 13 rfl rfl rfl;have qg:=tE hp 2 11 rfl rfl rfl;change OpGoal _ _ _ f w6 Ext _;refine og_guard (j:=11) (want:=false) rfl qg ?_;simp only[OpGoal];go_simp;exact⟨_,rfl,Ext.refl _,rfl⟩
      ·intro f w6 hG hp hl;have q31:=tE hp 0 14 rfl rfl rfl;have qg:=tE hp 1 11 rfl rfl rfl;change OpGoal _ _ _ f w6 Ext _;refine og_guard (j:=11) (want:=false) rfl qg ?_;simp only[OpGoal];go_simp;exact⟨_,rfl,Ext.refl _,rfl⟩
      ·intro f w6 hG hp hl;have hE:Ext wr w6:=hG;have q32:=tE hp 0 15 rfl rfl rfl;have qg:=tE hp 1 11 rfl rfl rfl;change OpGoal _ _ _ f w6 Ext _;refine og_guard (j:=11) (want:=false) rfl qg ?_;exact og_loadAt (P:=Tryz.prog) _ _ g (off+i*4+1) _ _ rfl rfl q32 (fun j v h=>HC3.out _ (hE0.trans hE) j v h) Tryz.underlying41 rfl (by kernel_rfl) rfl
      ·intro f w6 hG hp hl;have qg:=tE hp 0 11 rfl rfl rfl;change OpGoal _ _ _ f w6 Ext _;refine og_guard (j:=11) (want:=false) rfl qg ?_;simp only[OpGoal];go_simp;exact⟨_,rfl,Ext.refl _,rfl⟩
      ·intro f w6 hG hp hl;have qg:=tE hp 0 11 rfl rfl rfl;change OpGoal _ _ _ f w6 Ext _;refine og_guard (j:=11) (want:=false) rfl qg ?_;simp only[OpGoal];go_simp;exact⟨_,rfl,Ext.refl _,rfl⟩
      ·intro f w6 hG hp hl;have q34:=tE hp 0 17 rfl rfl rfl;have q35:=tE hp 1 18 rfl rfl rfl;have qg:=tE hp 2 11 rfl rfl rfl;change OpGoal _ _ _ f w6 Ext _;refine og_guard (j:=11) (want:=false) rfl qg ?_;simp only[OpGoal];go_simp;exact⟨_,rfl,Ext.refl _,rfl⟩
      ·intro f w6 hG hp hl;have q36:=tE hp 0 19 rfl rfl rfl;have qg:=tE hp 1 11 rfl rfl rfl;change OpGoal _ _ _ f w6 Ext _;refine og_guard (j:=11) (want:=false) rfl qg ?_;simp only[OpGoal];go_simp;exact⟨_,rfl,Ext.refl _,rfl⟩
      ·intro f w6 hG hp hl;have hE:Ext wr w6:=hG;have q37:=tE hp 0 20 rfl rfl rfl;have qg:=tE hp 1 11 rfl rfl rfl;change OpGoal _ _ _ f w6 Ext _;refine og_guard (j:=11) (want:=false) rfl qg ?_;exact og_loadAt (P:=Tryz.prog) _ _ g' (off'+i*4+1) _ _ rfl rfl q37 (fun j v h=>HC3'.out _ (hE0.trans hE) j v h) Tryz.underlying41 rfl (by kernel_rfl) rfl
      ·intro f w6 hG hp hl;have hE:Ext wr w6:=hG;have q33:=tE hp 0 16 rfl rfl rfl;have q38:=tE hp 1 21 rfl rfl rfl;have qg:=tE hp 2 11 rfl rfl rfl;change OpGoal _ _ _ f w6 Ext _;refine og_guard (j:=11) (want:=false) rfl qg ?_;change OpGoal _ _ _ f w6 Ext _;refine oC #[f 16,f 21] Tryz.func58 rfl rfl ?_;rw[q33,q38];refine(rqsame3_calls _ _ xb yb xs xt ys yt _ ((HR.out.1).ext (hE0.trans hE)) ((HR'.out.1).ext (hE0.trans hE))).mono ?_;rintro e w' ⟨rfl,h2⟩;exact⟨_,rfl,h2,congrArg Value.bool HS.out.symm⟩
      ·intro f w6 hG hp hl;have q39:=tE hp 0 22 rfl rfl rfl;have qg:=tE hp 1 11 rfl rfl rfl;change OpGoal _ _ _ f w6 Ext _;refine og_guard (j:=11) (want:=false) rfl qg ?_;simp only[OpGoal];go_simp;exact⟨_,rfl,Ext.refl _,rfl⟩
      ·intro f w6 hG hp hl;have q28:=tE hp 0 11 rfl rfl rfl;have q40:=tE hp 1 23 rfl rfl rfl;simp only[OpGoal];go_simp;exact⟨_,rfl,Ext.refl _,rfl⟩
     ·intro f w6 hG hp;have hE:Ext wr w6:=ChgS.nil hG
      have q41:f 24= .bool (!s):=endV hp 24 (by decide) rfl (fun h=>by cases h)
      try simp only[q41]
      clear hp
      cases s with
      |true=>
       have ht:l.take (i+1)=m.take (i+1):=by
        have h1:=HS.out;have h2:=of_decide_eq_true h1.symm;rw[List.take_add_one,List.take_add_one,HXY.out.1,HXY.out.2,hT.out,h2.1.1,h2.1.2,h2.2]
       have HT:=Lib.hid ht;clear ht;go_wp2;go_roundw
       case rel=>exact ⟨i+1,by omega,congrArg (Value.int .i64) (by omega),HT,hE0.trans hE⟩
       case measure=>simp [intOf];omega
      |false=>
       have he:l≠m:=fun h=>by
        have h1:=of_decide_eq_false HS.out.symm;have h2:=HXY.out.1.symm.trans ((congrArg (fun z=>z[i]?) h).trans HXY.out.2);simp only[Option.some.injEq,Prod.mk.injEq,true_and]at h2;exact h1 ⟨⟨h2.1,h2.2.1⟩,h2.2.2⟩
       have HR:=Lib.hid (decide_eq_false he);clear he;go_wp2;go_ret
       exact⟨by rw[HR.out]<;>rfl,hE0.trans hE⟩
    ·have he:l≠m:=fun h=>by
      have h2:=HXY.out.1.symm.trans ((congrArg (fun z=>z[i]?) h).trans HXY.out.2);simp only[Option.some.injEq,Prod.mk.injEq]at h2;exact hxy h2.1
     have HR:=Lib.hid (decide_eq_false he);have HXN:=Lib.hid hxy;clear he hxy;go_wp2_with fail;refine wpQ [PP.val (.slice (some ⟨g,off,none⟩) n cap),PP.val (.int .i64 (i:Int)),PP.val (.pointer (some ⟨g,off+i*4,none⟩)),PP.val (.pointer (some ⟨g,off+i*4,none⟩)),PP.val (.int .i64 xc),PP.val (.slice (some ⟨g',off',none⟩) n cap2),PP.val (.int .i64 (i:Int)),PP.val (.pointer (some ⟨g',off'+i*4,none⟩)),PP.val (.pointer (some ⟨g',off'+i*4,none⟩)),PP.val (.int .i64 yc),PP.val (.bool true),PP.val (.bool true),PP.any,PP.any,PP.any,PP.any,PP.any,PP.any,PP.any,PP.any,PP.any,PP.any,PP.any,PP.any,PP.val (.bool true)] [] [0,1,2,3,4,5,6,7,8,9,10,11,12,13,14,15,16,17,18,19,20,21,22,23,24] ?_ ?_
     ·refine⟨?_,?_,?_,?_,?_,?_,?_,?_,?_,?_,?_,?_,?_,?_,?_,?_,?_,?_,?_,?_,?_,?_,?_,?_,?_,trivial⟩
      ·intro f w6 hG hp hl;simp only[OpGoal];go_simp;exact⟨_,rfl,Ext.refl _,rfl⟩
      ·intro f w6 hG hp hl;simp only[OpGoal];go_simp;exact⟨_,rfl,Ext.refl _,rfl⟩
      ·intro f w6 hG hp hl;have q17:=tE hp 0 0 rfl rfl rfl;have q18:=tE hp 1 1 rfl rfl rfl;simp only[OpGoal];go_simp;exact⟨_,rfl,Ext.refl _,rfl⟩
      ·intro f w6 hG hp hl;have q19:=tE hp 0 2 rfl rfl rfl;simp only[OpGoal];go_simp;exact⟨_,rfl,Ext.refl _,rfl⟩
      ·intro f w6 hG hp hl;have hE:Ext wr w6:=hG;have q20:=tE hp 0 3 rfl rfl rfl;have hcell:=HC0.out _ (hE0.trans hE);simp only[OpGoal];go_simp;exact⟨_,rfl,Ext.refl _,rfl⟩
      ·intro f w6 hG hp hl;simp only[OpGoal];go_simp;exact⟨_,rfl,Ext.refl _,rfl⟩
      ·intro f w6 hG hp hl;simp only[OpGoal];go_simp;exact⟨_,rfl,Ext.refl _,rfl⟩
      ·intro f w6 hG hp hl;have q22:=tE hp 0 5 rfl rfl rfl;have q23:=tE hp 1 6 rfl rfl rfl;simp only[OpGoal];go_simp;exact⟨_,rfl,Ext.refl _,rfl⟩
      ·intro f w6 hG hp hl;have q24:=tE hp 0 7 rfl rfl rfl;simp only[OpGoal];go_simp;exact⟨_,rfl,Ext.refl _,rfl⟩
      ·intro f w6 hG hp hl;have hE:Ext wr w6:=hG;have q25:=tE hp 0 8 rfl rfl rfl;have hcell:=HC0'.out _ (hE0.trans hE);simp only[OpGoal];go_simp;exact⟨_,rfl,Ext.refl _,rfl⟩
      ·intro f w6 hG hp hl;have q21:=tE hp 0 4 rfl rfl rfl;have q26:=tE hp 1 9 rfl rfl rfl;have hxn:=HXN.out;simp only[OpGoal];go_simp
       first
       |exact ⟨_,rfl,Ext.refl _,rfl⟩
       |exact ⟨_,rfl,Ext.refl _,congrArg Value.bool (by simp[HXN.out])⟩
      ·intro f w6 hG hp hl;have q27:=tE hp 0 10 rfl rfl rfl;simp only[OpGoal];go_simp;exact⟨_,rfl,Ext.refl _,rfl⟩
      ·intro f w6 hG hp hl;have qg:=tE hp 0 11 rfl rfl rfl;exact og_skip rfl qg (by decide) trivial
      ·intro f w6 hG hp hl;have qg:=tE hp 0 11 rfl rfl rfl;exact og_skip rfl qg (by decide) trivial
      ·intro f w6 hG hp hl;have qg:=tE hp 2 11 rfl rfl rfl;exact og_skip rfl qg (by decide) trivial
      ·intro f w6 hG hp hl;have qg:=tE hp 1 11 rfl rfl rfl;exact og_skip rfl qg (by decide) trivial
      ·intro f w6 hG hp hl;have qg:=tE hp 1 11 rfl rfl rfl;exact og_skip rfl qg (by decide) trivial
      ·intro f w6 hG hp hl;have qg:=tE hp 0 11 rfl rfl rfl;exact og_skip rfl qg (by decide) trivial
      ·intro f w6 hG hp hl;have qg:=tE hp 0 11 rfl rfl rfl;exact og_skip rfl qg (by decide) trivial
      ·intro f w6 hG hp hl;have qg:=tE hp 2 11 rfl rfl rfl;exact og_skip rfl qg (by decide) trivial
      ·intro f w6 hG hp hl;have qg:=tE hp 1 11 rfl rfl rfl;exact og_skip rfl qg (by decide) trivial
      ·intro f w6 hG hp hl;have qg:=tE hp 1 11 rfl rfl rfl;exact og_skip rfl qg (by decide) trivial
      ·intro f w6 hG hp hl;have qg:=tE hp 2 11 rfl rfl rfl;exact og_skip rfl qg (by decide) trivial
      ·intro f w6 hG hp hl;have qg:=tE hp 1 11 rfl rfl rfl;exact og_skip rfl qg (by decide) trivial
      ·intro f w6 hG hp hl;have q28:=tE hp 0 11 rfl rfl rfl;simp only[OpGoal];go_simp;exact⟨_,rfl,Ext.refl _,rfl⟩
     ·intro f w6 hG hp;have hE:Ext wr w6:=ChgS.nil hG
      have q41:f 24= .bool true:=endV hp 24 (by decide) rfl (fun h=>by cases h)
      try simp only[q41]
      clear hp;go_wp2;go_ret
      exact⟨by rw[HR.out]<;>rfl,hE0.trans hE⟩
 ·have he:l≠m:=fun h=>hnm (by rw[HN.out,HM.out,h])
  have hz:(n:Int)≠(n2:Int):=by omega
  have HR:=Lib.hid (decide_eq_false he);clear he;go_wp2;go_ret
  exact⟨by rw[HR.out]<;>rfl,Ext.refl _⟩
def lightW:List Nat→Bool
 | []=>true
 | [x]=>decide (x<65536)
 |_=>false
def wordsE(e:RE):Nat:=e.2.1.length+e.2.2.length
def heavyE(e:RE):Nat:=if lightW e.2.1&&lightW e.2.2 then 0 else wordsE e
def weightE:List RE→Nat
 | []=>0
 |e::l=>heavyE e+weightE l
theorem weightE_snoc(l:List RE)(e:RE):weightE (l++ [e])=weightE l+heavyE e:=by
 induction l with
 |nil=>simp [weightE]
 |cons x l ih=>simp only[List.cons_append,weightE,ih];omega
def greatE(l:List RE):Bool:=l.any (fun e=>decide (6<wordsE e)) || (decide (30<l.length) || decide (18<weightE l))
theorem greatE_not{l:List RE}(h:greatE l=false):l.length≤30∧∀e∈l,wordsE e≤6:=by
 unfold greatE at h;simp only[Bool.or_eq_false_iff,decide_eq_false_iff_not,List.any_eq_false,decide_eq_true_eq]at h;exact⟨by omega,fun e he=>by have:=h.1 e he;omega⟩
theorem greatE_words{l:List RE}{i:Nat}{e:RE}(h:l[i]? =some e)(hw:6<wordsE e):greatE l=true:=by
 unfold greatE
 have:l.any (fun e=>decide (6<wordsE e))=true:=List.any_eq_true.2 ⟨e,List.mem_of_getElem? h,by simpa using hw⟩
 rw[this]
 rfl
theorem greatE_rest{l:List RE}(h:∀e∈l,wordsE e≤6):greatE l=(decide (30<l.length) || decide (18<weightE l)):=by
 unfold greatE
 have:l.any (fun e=>decide (6<wordsE e))=false:=List.any_eq_false.2 fun e he=>by have:=h e he;simp;omega
 rw[this]
 rfl
def greatV(l:List TE):Bool:=greatE (l.map Prod.snd)
set_option maxHeartbeats 4000000 in
theorem light_calls(v:Value)(xs:List Nat)(w:World)(hv:IsL .u64 w v xs)(hd:Dig W xs):
  Calls Tryz.prog 150 #[v] w fun e w'=>e= .returned (.bool (lightW xs))∧Ext w w':=by
 obtain⟨ad,cap,rfl,hlc,hcap,hr⟩:=hv
 match xs,hlc,hr,hd with
 | [],hlc,hr,hd=>
  simp only[List.length_nil]
  go_enter Tryz.func150,Tryz.ntmps150
  go_wp2;go_ret;exact⟨rfl,Ext.refl _⟩
 | [x],hlc,hr,hd=>
  obtain⟨b,off,rfl,hcells⟩:=hr.at (by simp[vals]);have hcx:=hcells 0 _ (vals_get .u64 [x] 0 (by simp));simp only[List.length_cons,List.length_nil,Nat.zero_add];have hx:x<W:=hd x (by simp);rw[W_eq]at hx;clear hcells hr hd
  simp at hcx
  go_enter Tryz.func150,Tryz.ntmps150
  by_cases hxx:x<65536
  ·have h1:(x:Int)<65536:=by omega
   have HR:Hid (lightW [x]=true):=Lib.hid (decide_eq_true hxx)
   go_wp2;go_ret
   exact⟨by rw[HR.out]<;>rfl,Ext.refl _⟩
  ·have h1:¬(x:Int)<65536:=by omega
   have HR:Hid (lightW [x]=false):=Lib.hid (decide_eq_false hxx)
   go_wp2;go_ret
   exact⟨by rw[HR.out]<;>rfl,Ext.refl _⟩
 |x::y::r,hlc,hr,hd=>
  obtain⟨n,hn⟩:∃n,n=(x::y::r).length:=⟨_,rfl⟩
  have h0:(n:Int)≠0:=by rw[hn];simp only[List.length_cons];omega
  have h1:(n:Int)≠1:=by rw[hn];simp only[List.length_cons];omega
  have HR:Hid (lightW (x::y::r)=false):=Lib.hid rfl
  have hb0:((n:Int)==0)=false:=by simpa using h0
  have hb1:((n:Int)==1)=false:=by simpa using h1
  rw[←hn];clear hn hr
  go_enter Tryz.func150,Tryz.ntmps150
  go_wp2;go_ret
  exact⟨by rw[HR.out]<;>rfl,Ext.refl _⟩
set_option maxHeartbeats 4000000 in
theorem weight_calls(v:Value)(l:List RE)(w:World)(hv:SLQ w v l)(hn:l.length≤30)(hl:∀e∈l,wordsE e≤6):
  Calls Tryz.prog 74 #[v] w fun e w'=>e= .returned (.int .i64 (weightE l:Int))∧Ext w w':=by
 obtain⟨ad,n,cap,hnl,rfl,hn1,hat⟩:=hv.at;rw[←hnl]at hn;have HN:=Lib.hid hnl;have HAT:=Lib.hid hat;clear hnl hat hv
 go_enter Tryz.func74,Tryz.ntmps74
 go_wp2_with fail
 go_loopw [3,4] (fun s3 s4 wr=>∃i s:Nat,i≤n∧s4= .int .i64 (i:Int)∧s3= .int .i64 (s:Int)∧s≤6*i∧Hid (s=weightE (l.take i))∧Ext w wr) (fun _ s4 _=>((n:Int) - intOf s4).toNat)
 case atStart=>exact ⟨0,0,Nat.zero_le _,rfl,rfl,Nat.zero_le _,Lib.hid rfl,Ext.refl _⟩
 case round=>
  obtain⟨i,s,hi,rfl,rfl,hs6,hS,hE0⟩:=hrel
  rcases Nat.eq_or_lt_of_le hi with hin |hin
  ·subst hin
   have hlt:¬((i:Int)<(i:Int)):=by omega
   have hss:s=weightE l:=by have:=hS.out;rwa [HN.out,List.take_length]at this
   have HSS:=Lib.hid hss;clear hss;go_wp2;go_ret
   exact⟨by rw[HSS.out]<;>rfl,hE0⟩
  ·have hlt:(i:Int)<(n:Int):=by omega
   obtain⟨⟨xb,xs,xt⟩,hx⟩:∃x,l[i]? =some x:=⟨_,List.getElem?_eq_getElem (by rw[←HN.out];exact hin)⟩;obtain⟨g,off,rfl,b,a1,n1,c1,a2,n2,c2, -, -,hcell⟩:=HAT.out i _ hx;have hw6:xs.length+xt.length≤6:=hl _ (List.mem_of_getElem? hx)
   have htk:weightE (l.take (i+1))=weightE (l.take i)+heavyE (xb,xs,xt):=by rw[List.take_add_one,hx];exact weightE_snoc _ _
   rw[←hS.out]at htk;have HTK:=Lib.hid htk;obtain⟨hc0,hc1,hc2,hR⟩:=hcell wr hE0;have HC:=Lib.hid hcell;have HX:=Lib.hid hx;have HW:=Lib.hid hw6;obtain⟨⟨s1,s2,hv,hL1,hL2⟩,hD1,hD2, -⟩:=hR
   cases hv
   have HL:=Lib.hid (And.intro hL1 (And.intro hL2 (And.intro hD1 hD2)));clear hx hcell htk hL1 hL2 hD1 hD2 hw6
   have hnh:(heavyE (xb,xs,xt))=if lightW xs&&lightW xt then 0 else xs.length+xt.length:=rfl
   have HNH:=Lib.hid hnh;clear hnh;obtain⟨p,hp⟩:∃p,p=lightW xs:=⟨_,rfl⟩;obtain⟨q,hq⟩:∃q,q=lightW xt:=⟨_,rfl⟩;have HP:=Lib.hid (And.intro hp hq);obtain⟨i1,hi1⟩:∃i1,i1=i+1:=⟨_,rfl⟩
   have hi1':(i:Int)+1=(i1:Int):=by omega
   have hi1n:i1≤n:=by omega
   have HI1:=Lib.hid hi1;obtain⟨t,ht⟩:∃t,t=xs.length+xt.length:=⟨_,rfl⟩;obtain⟨st,hst⟩:∃st,st=s+t:=⟨_,rfl⟩
   have ht6:t≤6:=by rw[ht];exact HW.out
   have hst':(s:Int)+(t:Int)=(st:Int):=by omega
   have hst6:st≤6*i1:=by omega
   have hs6':s≤6*i1:=by omega
   have hwst:IntKind.i64.wrap (st:Int)=(st:Int):=Go.IntWalk.i64_in _ ⟨by omega,by omega⟩
   have HT:=Lib.hid (And.intro ht hst);clear hp hq hi1 ht hst;go_wp2_with fail;refine(light_calls _ xs wr HL.out.1 HL.out.2.2.1).mono ?_;rintro e w2 ⟨rfl,e2⟩;rw[←HP.out.1];obtain⟨hd0,hd1,hd2, -⟩:=HC.out w2 (hE0.trans e2);have hE2:=hE0.trans e2
   cases p with
   |true=>
    go_wp2_with fail;refine(light_calls _ xt w2 (HL.out.2.1.ext e2) HL.out.2.2.2).mono ?_;rintro e w3 ⟨rfl,e3⟩;rw[←HP.out.2];obtain⟨hf0,hf1,hf2,hf⟩:=HC.out w3 (hE2.trans e3);have HF:=Lib.hid hf;clear hf
    cases q with
    |true=>
     have hz:s=weightE (l.take i1):=by
      rw[HI1.out,HTK.out,HNH.out,←HP.out.1,←HP.out.2]
      rfl
     have HZ:=Lib.hid hz;clear hz;go_wp2;go_roundw
     case rel=>exact ⟨i1,s,hi1n,rfl,rfl,hs6',HZ,hE2.trans e3⟩
     case measure=>have:=HI1.out;simp[intOf];omega
    |false=>
     have hz:st=weightE (l.take i1):=by
      rw[HI1.out,HTK.out,HNH.out,←HP.out.1,←HP.out.2,HT.out.2,HT.out.1]
      rfl
     have HZ:=Lib.hid hz;clear hz;go_wp2_with fail;refine(rqwords3_calls _ xb xs xt w3 HF.out.1 (by have:=HW.out;omega)).mono ?_;rintro e w4 ⟨rfl,e4⟩;rw[←HT.out.1];go_wp2;go_roundw
     case rel=>exact ⟨i1,st,hi1n,rfl,rfl,hst6,HZ,(hE2.trans e3).trans e4⟩
     case measure=>have:=HI1.out;simp[intOf];omega
   |false=>
    obtain⟨hf0,hf1,hf2,hf⟩:=HC.out w2 hE2;have HF:=Lib.hid hf;clear hf
    have hz:st=weightE (l.take i1):=by
     rw[HI1.out,HTK.out,HNH.out,←HP.out.1,HT.out.2,HT.out.1]
     rfl
    have HZ:=Lib.hid hz;clear hz;go_wp2_with fail;refine(rqwords3_calls _ xb xs xt w2 HF.out.1 (by have:=HW.out;omega)).mono ?_;rintro e w4 ⟨rfl,e4⟩;rw[←HT.out.1];go_wp2;go_roundw
    case rel=>exact ⟨i1,st,hi1n,rfl,rfl,hst6,HZ,hE2.trans e4⟩
    case measure=>have:=HI1.out;simp[intOf];omega
set_option maxHeartbeats 4000000 in
theorem weights_calls(v:Value)(l:List TE)(w:World)(hv:TLE w v l)(hn:l.length≤30)(hl:∀e∈l,wordsE e.2≤6):
  Calls Tryz.prog 75 #[v] w fun e w'=>e= .returned (.int .i64 (weightE (l.map Prod.snd):Int))∧Ext w w':=by
 obtain⟨ad,n,cap,hnl,rfl,hn1,hat⟩:=hv.at;rw[←hnl]at hn;have HN:=Lib.hid hnl;have HAT:=Lib.hid hat;clear hnl hat hv
 go_enter Tryz.func75,Tryz.ntmps75
 go_wp2_with fail
 go_loopw [3,4] (fun s3 s4 wr=>∃(i:Nat) (ado:Option Addr) (capo:Nat),i≤n∧s4= .int .i64 (i:Int)∧s3= .slice ado i capo∧Hid (OL 41 3 w.heap.size (fun _ u e=>RawE w u e) wr (.slice ado i capo) ((l.map Prod.snd).take i))∧Ext w wr) (fun _ s4 _=>((n:Int) - intOf s4).toNat)
 case atStart=>exact ⟨0,none,0,Nat.zero_le _,rfl,rfl,Lib.hid (OL.nil _ _ _ _ _),Ext.refl _⟩
 case round=>
  obtain⟨i,ado,capo,hi,rfl,rfl,hS,hE0⟩:=hrel
  rcases Nat.eq_or_lt_of_le hi with hin |hin
  ·subst hin
   have hlt:¬((i:Int)<(i:Int)):=by omega
   have hsl:SLQ wr (.slice ado i capo) (l.map Prod.snd):=by
    have:=hS.out
    rw[show (l.map Prod.snd).take i=l.map Prod.snd by rw[HN.out,List.take_of_length_le (by simp)]]at this
    exact(this.sl (by omega)).map fun u y h=>h.ext hE0
   have HSL:=Lib.hid hsl;clear hsl;go_wp2_with fail;refine(weight_calls _ (l.map Prod.snd) wr HSL.out (by rw[List.length_map,←HN.out];exact hn) (fun e he=>by obtain⟨x,h1,rfl⟩:=List.mem_map.1 he;exact hl x h1)).mono ?_;rintro e w2 ⟨rfl,e2⟩;go_wp2;go_ret;exact⟨rfl,hE0.trans e2⟩
  ·have hlt:(i:Int)<(n:Int):=by omega
   obtain⟨⟨xc,xe⟩,hx⟩:∃x,l[i]? =some x:=⟨_,List.getElem?_eq_getElem (by rw[←HN.out];exact hin)⟩;obtain⟨g,off,rfl,b,a1,n1,c1,a2,n2,c2, -, -,hcell,hR⟩:=HAT.out i _ hx;have hc3:=cells3 hcell;have hc0:=hc3 wr hE0 0 _ rfl;have hc1:=hc3 wr hE0 1 _ rfl;have hc2:=hc3 wr hE0 2 _ rfl;simp only[Nat.add_zero]at hc0;obtain⟨vs,hls,hvl,hvs⟩:=hS.out
   have hvi:vs.length=i:=by rw[hvl,List.length_take,List.length_map,←HN.out];omega
   have htk:(l.map Prod.snd).take (i+1)=(l.map Prod.snd).take i++ [xe]:=by rw[List.take_add_one,List.getElem?_map,hx];rfl
   subst hvi;have HTK:=Lib.hid htk;have HLS:=Lib.hid hls;have HV:=Lib.hid (And.intro hvl hvs);have HRX:=Lib.hid hR;have hwr:=hE0.size
   simp only at hR
   clear hcell hx hls hvl hvs htk hc3 hR hS
   go_wp2_with (first
    | (at_builtin;go_loud (refine wpList_append_LS rfl _ _ 49 rfl 41 3 56 w.heap.size Tryz.underlying49 (by kernel_rfl) (by kernel_rfl) (by omega) _ vs rfl (HLS.out.ext ((Ext.refl _).alloc _)) ⟨wr.heap.size,0,none⟩ #[.bool b,.slice a1 n1 c1,.slice a2 n2 c2] rfl rfl (news_new _ _ _) (by kernel_rfl) (by omega) (by omega) (by rw[alloc_size];omega) ?_);intro g' cap2' w7 hls7 hg7 hwh7 hlt7)
    |fail)
   go_roundw
   case rel=>
    have hA:=(Ext.refl wr).alloc (.cells #[.bool b,.slice a1 n1 c1,.slice a2 n2 c2] 41);refine⟨vs.length+1,some ⟨g',0,none⟩,cap2',by omega,by simp,rfl,Lib.hid ?_,(hE0.trans hA).stepG hg7 HLS.out.ge⟩;rw[HTK.out];exact OL.app (w:=wr) HV.out.1 HV.out.2 hls7 (fun u y h=>h) HRX.out
   case measure=>simp [intOf];omega
set_option maxHeartbeats 4000000 in
theorem great_calls(v:Value)(l:List TE)(w:World)(hv:TLE w v l):
  Calls Tryz.prog 73 #[v] w fun e w'=>e= .returned (.bool (greatV l))∧Ext w w':=by
 obtain⟨ad,n,cap,hnl,rfl,hn1,hat⟩:=hv.at;have HV:=Lib.hid hv;have HN:=Lib.hid hnl;have HAT:=Lib.hid hat;clear hnl hat hv
 go_enter Tryz.func73,Tryz.ntmps73
 go_wp2_with fail
 go_loopw [3] (fun s wr=>∃i:Nat,i≤n∧s= .int .i64 (i:Int)∧Hid (∀e∈l.take i,wordsE e.2≤6)∧Ext w wr) (fun s _=>((n:Int) - intOf s).toNat)
 case atStart=>exact ⟨0,Nat.zero_le _,rfl,Lib.hid (fun e he=>by simp at he),Ext.refl _⟩
 case round=>
  obtain⟨i,hi,rfl,hS,hE0⟩:=hrel
  rcases Nat.eq_or_lt_of_le hi with hin |hin
  ·subst hin
   have hlt:¬((i:Int)<(i:Int)):=by omega
   have hall:∀e∈l,wordsE e.2≤6:=by have:=hS.out;rwa [HN.out,List.take_length]at this
   have hG:greatV l=(decide (30<i) || decide (18<weightE (l.map Prod.snd))):=by
    unfold greatV;rw[greatE_rest (fun e he=>by obtain⟨x,h1,rfl⟩:=List.mem_map.1 he;exact hall x h1),List.length_map,←HN.out]
   have HG:=Lib.hid hG;have HALL:=Lib.hid hall;clear hG hall
   by_cases h30:30<i
   ·have h30':(30:Int)<(i:Int):=by omega
    have HR:Hid (greatV l=true):=Lib.hid (by rw[HG.out,decide_eq_true h30];rfl)
    go_wp2;go_ret
    exact⟨by rw[HR.out]<;>rfl,hE0⟩
   ·have h30':¬(30:Int)<(i:Int):=by omega
    have HR:Hid (greatV l=decide (18<weightE (l.map Prod.snd))):=Lib.hid (by rw[HG.out,decide_eq_false h30];rfl)
    go_wp2_with fail;refine(weights_calls _ l wr (HV.out.ext hE0) (by rw[←HN.out];omega) HALL.out).mono ?_;rintro e w2 ⟨rfl,e2⟩;obtain⟨p,hp⟩:∃p,p=weightE (l.map Prod.snd):=⟨_,rfl⟩;rw[←hp]at HR ⊢;clear hp
    by_cases h18:18<p
    ·have h18':(18:Int)<(p:Int):=by omega
     have HR2:Hid (greatV l=true):=Lib.hid (by rw[HR.out,decide_eq_true h18])
     go_wp2;go_ret
     exact⟨by rw[HR2.out]<;>rfl,hE0.trans e2⟩
    ·have h18':¬(18:Int)<(p:Int):=by omega
     have hd18:decide ((18:Int)<(p:Int))=false:=decide_eq_false h18'
     have HR2:Hid (greatV l=false):=Lib.hid (by rw[HR.out,decide_eq_false h18])
     go_wp2;go_ret
     exact⟨by rw[HR2.out]<;>rfl,hE0.trans e2⟩
  ·have hlt:(i:Int)<(n:Int):=by omega
   obtain⟨⟨xc,xb,xs,xt⟩,hx⟩:∃x,l[i]? =some x:=⟨_,List.getElem?_eq_getElem (by rw[←HN.out];exact hin)⟩;obtain⟨g,off,rfl,b,a1,n1,c1,a2,n2,c2, -, -,hcell,hR⟩:=HAT.out i _ hx;have hc3:=cells3 hcell;have hc0:=hc3 wr hE0 0 _ rfl;have hc1:=hc3 wr hE0 1 _ rfl;have hc2:=hc3 wr hE0 2 _ rfl;simp only[Nat.add_zero]at hc0;have HRX:=Lib.hid hR;have HX:=Lib.hid hx;obtain⟨p,hp⟩:∃p,p=xs.length+xt.length:=⟨_,rfl⟩;have HP:=Lib.hid hp;obtain⟨i1,hi1⟩:∃i1,i1=i+1:=⟨_,rfl⟩
   have hi1':(i:Int)+1=(i1:Int):=by omega
   have hi1n:i1≤n:=by omega
   have HI1:=Lib.hid hi1;clear hcell hx hc3 hR hp hi1;go_wp2_with fail;refine(rqwords3_calls _ xb xs xt wr (HRX.out.1.ext hE0) HRX.out.2.2.2).mono ?_;rintro e w2 ⟨rfl,e2⟩;rw[←HP.out]
   by_cases h6:6<p
   ·have h6':(6:Int)<(p:Int):=by omega
    have HR:Hid (greatV l=true):=Lib.hid (greatE_words (l:=l.map Prod.snd) (i:=i) (e:=(xb,xs,xt)) (by rw[List.getElem?_map,HX.out];rfl) (by show 6<xs.length+xt.length;rw[←HP.out];exact h6))
    go_wp2;go_ret
    exact⟨by rw[HR.out]<;>rfl,hE0.trans e2⟩
   ·have h6':¬(6:Int)<(p:Int):=by omega
    have hs:∀e∈l.take i1,wordsE e.2≤6:=by
     rw[HI1.out,List.take_add_one,HX.out];intro e he
     rcases List.mem_append.1 he with he |he
     ·exact hS.out e he
     ·simp only[Option.toList_some,List.mem_singleton]at he;subst he
      show xs.length+xt.length≤6
      rw[←HP.out]
      omega
    have HS:=Lib.hid hs;clear hs;go_wp2;go_roundw
    case rel=>exact ⟨i1,hi1n,rfl,HS,hE0.trans e2⟩
    case measure=>have:=HI1.out;simp[intOf];omega
theorem all_true(v u:Value)(l:List TE)(w:World)(hv:TLE w v l)(hu:TLE w u l):Calls Tryz.prog 23 #[v,u] w fun e w'=>e= .returned (.bool true)∧Ext w w':=by
 refine(vsame_calls v u l l w hv hu).mono ?_;rintro e w' ⟨rfl,h⟩;exact⟨by simp,h⟩
theorem LS.chg{e:TypeId}{n B g:Nat}{w w':World}{v:Value}{vs:List Value}(h:LS e n B w v vs)(hc:Chg g w w')(hg:g<B):LS e n B w' v vs:=by
 refine⟨h.1,h.2.1,?_⟩
 rcases h.2.2 with h2 |⟨g',cap,cur,h1,h2,h3,h4⟩
 ·exact .inl h2
 ·exact .inr ⟨g',cap,cur,h1,h2,hc.blk h3 (by omega),h4⟩
theorem TO.chg{B k g:Nat}{w w':World}{v:Value}{m:List (Int×Rat)}(h:TO B k w v m)(hc:Chg g w w')(hg:g<B):TO B k w' v m:=by
 obtain⟨ts,h1,h2,h3⟩:=h;exact⟨ts,h1,h2.chg hc hg,fun i t x h4 h5=>(let ⟨a,b,c⟩:=h3 i t x h4 h5;⟨a,b.chg hc hg,c⟩)⟩
def PP.tO{S:Nat}(k:Nat)(m:List (Int×Rat)):PP S:=⟨false,fun u w=>TO S k w u m,fun _ _ _ h hp=>hp.ext h,fun _ _ hg _ _ _ h hp=>hp.chg h hg⟩
open Go.ChangeShapes Go.WideShapes Go.ChangeAt
theorem cellsTm:Tryz.prog.cellsOf 95=4:=by kernel_rfl
theorem cellsInt:Tryz.prog.cellsOf 3=1:=by kernel_rfl
section
variable {H:Type} {enc:TypeId×Value→H} {w:World} {base:Nat} {spare:Nat→Bool} {held:Bool}
theorem open_int1{fuel:Nat}{cs:List Value}{x:DataW H×List MemPlace}(h:DataW.trod enc Tryz.prog w base spare held fuel 3 cs=some x):∃k,cs=[.int .i64 k]∧(Lit.int .i64 k).wf=true∧x.1= .lit (.int .i64 k):=by
 cases fuel with
 |zero=>simp [DataW.trod]at h
 |succ n=>
  unfold DataW.trod at h;rw[Tryz.underlying3]at h
  rcases cs with _ |⟨c,_ |⟨c2,cs⟩⟩<;>(try cases c)<;>simp at h
  obtain⟨⟨rfl,hw⟩,h2⟩:=h;exact⟨_,rfl,hw,by rw[←h2]⟩
theorem open_termC{fuel:Nat}{cs:List Value}{x:DataW H×List MemPlace}(h:DataW.trod enc Tryz.prog w base spare held fuel 95 cs=some x):∃c b s t xs ys,cs=[.int .i64 c,.bool b,s,t]∧(Lit.int .i64 c).wf=true∧IsL .u64 w s xs∧Dig W xs∧IsL .u64 w t ys∧Dig W ys∧(∀B,(∀n∈x.1.weights Tryz.prog 95,n≤B)→xs.length≤B∧ys.length≤B):=by
 obtain⟨y0,y1,n,hx,hl,h0,h1⟩:=trod_struct2 Tryz.underlying95 h;rw[cellsTm]at hl
 obtain⟨c0,c1,c2,c3,rfl⟩:∃c0 c1 c2 c3,cs=[c0,c1,c2,c3]:=by
  rcases cs with _ |⟨c0,_ |⟨c1,_ |⟨c2,_ |⟨c3,_ |⟨c4,cs⟩⟩⟩⟩⟩<;>simp at hl
  exact⟨_,_,_,_,rfl⟩
 obtain⟨c,hc,wc, -⟩:=open_int1 h0;obtain⟨b,s,t,xs,ys,hb,hL,hd,hL2,hd2,hB,hw⟩:=open_ratC h1
 have e0:List.take (Tryz.prog.cellsOf 3) (List.drop 0 [c0,c1,c2,c3])=[c0]:=by rw[cellsInt];rfl
 have e1:List.take (Tryz.prog.cellsOf 41) (List.drop 1 [c0,c1,c2,c3])=[c1,c2,c3]:=by rw[cellsQ];rfl
 have h0': [c0]=[.int .i64 c]:=e0▸hc
 have h1': [c1,c2,c3]=[.bool b,s,t]:=e1▸hb
 simp only[List.cons.injEq,and_true]at h0' h1';obtain⟨rfl,rfl,rfl⟩:=h1';subst h0';refine⟨c,b,_,_,xs,ys,rfl,wc,hL,hd,hL2,hd2,fun B h=>hB B fun n hn=>h n ?_⟩;rw[hx];simp only[DataW.weights,Tryz.underlying95]
 first
  |exact List.mem_append_right _ (List.mem_append_left _ hn)
  | (simp only[List.mem_append];exact .inr (.inl hn))
end
theorem rqofR_calls(v:Value)(q:Rat)(k:Nat)(w:World)(hv:IsR w v q k)(hk:k≤1000000):
  Calls Tryz.prog 31 #[v] w fun e w'=>∃v',e= .returned v'∧FrQd w.heap.size w' v' q∧Ext w w':=by
 obtain⟨n,d,h1,rfl,h2,h3⟩:=hv;have a1:=szTK_le n.natAbs;have a2:=szTK_le d;have b1:sz W n.natAbs≤k:=h2;exact rqof3_calls _ _ _ _ h1 (by show sz TK n.natAbs≤_;omega) (by omega)
theorem szD_of{q:Rat}{k:Nat}(h:szQ q≤k):szD q≤5*k:=by
 have a1:=szTK_le q.num.natAbs;have a2:=szTK_le q.den;unfold szQ szZ at h;unfold szD szT
 omega
theorem FrQd.chgN{B:Nat}{w w':World}{v:Value}{q:Rat}{g:Nat}{t:TypeId}{cs cs':Array Value}(h:FrQd B w v q)(hc:Chg g w w')(hb:Bx t w g cs)(hb':Bx t w' g cs')(ht:t≠173)(ht2:t≠3):FrQd B w' v q:=h.tchg (S:=0) ⟨g,t,cs,cs',Nat.zero_le _,ht,ht2,rfl,hb,hb',hc⟩
def DtJ(w wr:World)(g K:Nat)(q:Rat):Prop:=Ext w wr∧∃b a1 n1 c1 a2 n2 c2,Bx 56 wr g #[.bool b,.slice a1 n1 c1,.slice a2 n2 c2]∧FrQd w.heap.size wr (.agg #[.bool b,.slice a1 n1 c1,.slice a2 n2 c2]) q∧szD q≤K
set_option maxHeartbeats 4000000 in
theorem get5_calls(k:Nat)(v:Value)(c:Int)(l:List (Int×Rat))(w:World)(hl:TL k w v l)(hk:k≤1000000)(hn:l.length≤6000):
  Calls Tryz.prog 92 #[v,.int .i64 c] w fun e w'=>∃v',e= .returned v'∧FrQd w.heap.size w' v' (getV l c)∧szD (getV l c)≤l.length*(5*k+1)+1∧Ext w w':=by
 obtain⟨ad,n,cap,hnl,rfl,hn1,hat⟩:=hl.at;rw[←hnl]at hn ⊢;have Hn:=Lib.hid hnl;have Hat:=Lib.hid hat;clear hnl hl hat
 go_enter Tryz.func92,Tryz.ntmps92
 obtain⟨w1,hw1,e1,b1,s1⟩:=alloc1 w #[.bool false,.slice none 0 0,.slice none 0 0] 56;go_wp2_with fail;rw[←hw1];refine(rqsmall3_calls 0 _ (by omega) (by omega)).mono ?_;rintro e w2 ⟨v2,rfl,q2,e2⟩;obtain⟨b,ad2,l2,cap2,bd,m2,dap,rfl,q2⟩:=q2.opn;have Hq2:=Lib.hid q2;obtain⟨w3,hw3,e3,b3,s3⟩:=alloc1 w2 #[.bool b,.slice ad2 l2 cap2,.slice bd m2 dap] 56;clear q2;go_wp2_with fail;rw[←hw3];have HJ:DtJ w w3 w2.heap.size (0*(5*k+1)+1) (getV (l.take 0) c):=⟨(e1.trans e2).trans e3,_,_,_,_,_,_,_,b3,by rw[List.take_zero,getV_nil];exact(Hq2.out.ext e3).mono e1.size,by rw[List.take_zero,getV_nil,Nat.zero_mul];decide⟩;have HJ0:=Lib.hid HJ
 have hs2:w.heap.size<w2.heap.size:=by have:=e1.size;have:=e2.size;have:=b1.lt;have:=s1;omega
 obtain⟨g5,hg5⟩:∃g5,g5=w2.heap.size:=⟨_,rfl⟩;rw[←hg5]at HJ0 hs2 ⊢;have B1:Bx 56 w3 w.heap.size #[.bool false,.slice none 0 0,.slice none 0 0]:=(b1.ext e2).ext e3;clear HJ hw1 hw3 hg5 Hq2
 go_loopw [6] (fun s6 wr=>∃i:Nat,i≤n∧s6= .int .i64 (i:Int)∧Hid (DtJ w wr g5 (i*(5*k+1)+1) (getV (l.take i) c)∧Bx 56 wr w.heap.size #[.bool false,.slice none 0 0,.slice none 0 0])) (fun s6 _=>((n:Int) - intOf s6).toNat)
 case atStart=>exact ⟨0,Nat.zero_le _,rfl,Lib.hid ⟨HJ0.out,B1⟩⟩
 case round=>
  obtain⟨i,hi,rfl,hH⟩:=hrel;obtain⟨⟨hE0,rb,r1,m1,d1,r2,m2',d2,hbx,hq,hsz⟩,hB0⟩:=hH.out;have HQ:=Lib.hid hq;have HSZ:=Lib.hid hsz;clear hq hsz hH HJ0 B1 b1 b3 e1 e2 e3 s1 s3
  rcases Nat.eq_or_lt_of_le hi with hin |hin
  ·subst hin
   have hlt:¬((i:Int)<(i:Int)):=by omega
   have hcx0:=hbx.cell 0;have hcx1:=hbx.cell 1;have hcx2:=hbx.cell 2;have hb:=hB0;have hc0:=hb.cell 0;have hc1:=hb.cell 1;have hc2:=hb.cell 2;have hf0:=hb.free 0;have hf1:=hb.free 1;have hf2:=hb.free 2;clear hbx;have hszw:=hE0.size;go_wp2;have HQ2:=HQ.out;rw[show l.take i=l by rw[Hn.out,List.take_length]]at HQ2 HSZ;refine ret_box 4 56 w.heap.size 56 _ _ (by kernel_rfl) rfl (((hb.set 0 _).set 1 _).set 2 _) Tryz.underlying56 rfl (by kernel_rfl) rfl ?_;exact⟨_,rfl,HQ2.chgN (Chg.trans (Chg.trans (Chg.setCell _ w.heap.size 0 _) (Chg.setCell _ w.heap.size 1 _)) (Chg.setCell _ w.heap.size 2 _)) hB0 (((hb.set 0 _).set 1 _).set 2 _) (by decide) (by decide),HSZ.out,hE0.step (Chg.trans (Chg.trans (Chg.setCell _ w.heap.size 0 _) (Chg.setCell _ w.heap.size 1 _)) (Chg.setCell _ w.heap.size 2 _)) (by omega)⟩
  ·have hlt:(i:Int)<(n:Int):=by omega
   obtain⟨x,hx⟩:∃x,l[i]? =some x:=⟨_,List.getElem?_eq_getElem (by rw[←Hn.out];exact hin)⟩;obtain⟨g,off,rfl,b',a1,n1,c1,a2,n2,c2,hcell⟩:=Hat.out i x hx;obtain⟨hc0,hc1,hc2,hc3,hIsR⟩:=hcell wr hE0;have HC:=Lib.hid hcell;have HX:=Lib.hid (And.intro hx hIsR)
   have htk:l.take (i+1)=l.take i++ [x]:=by rw[List.take_add_one,hx];rfl
   obtain⟨xc,xq⟩:=x
   simp only at hc0 hc1 hc2 hc3 HX htk
   have HTK:=Lib.hid htk;clear hx hIsR htk hcell
   have hmul:i*(5*k+1)+(5*k+1)=(i+1)*(5*k+1):=(Nat.succ_mul i (5*k+1)).symm
   have hle:i*(5*k+1)≤6000*5000001:=Nat.mul_le_mul (by omega) (by omega)
   by_cases hcc:xc=c∧0≤c
   ·obtain⟨rfl,hc0'⟩:=hcc;go_wp2_with fail;clear hc0 hc1 hc2 hc3;have h5g:g5<wr.heap.size:=hbx.lt
    have hcl:Hid (∀wz,Ext wr wz→∀(j:Nat) (v:Value),(#[.bool b',.slice a1 n1 c1,.slice a2 n2 c2]:Array Value)[j]? =some v→wz.cell? ⟨g,off+i*4+1+j,none⟩=some v):=Lib.hid fun wz hz j v hj=>by
     obtain⟨_,k1,k2,k3, -⟩:=HC.out wz (hE0.trans hz)
     match j,hj with
     |0,hj=>cases hj;exact k1
     |1,hj=>cases hj;exact k2
     |2,hj=>cases hj;exact k3
     |j+3,hj=>simp at hj
    refine wpP [⟨8,g5,56,PP.frQdS (getV (l.take i) xc+xq) ((i+1)*(5*k+1)+1)⟩] [PP.val (.agg #[.bool rb,.slice r1 m1 d1,.slice r2 m2' d2]),PP.val (.slice (some ⟨g,off,none⟩) n cap),PP.val (.int .i64 (i:Int)),PP.val (.pointer (some ⟨g,off+i*4,none⟩)),PP.val (.pointer (some ⟨g,off+i*4+1,none⟩)),PP.val (.agg #[.bool b',.slice a1 n1 c1,.slice a2 n2 c2]),PP.frQd xq,PP.frQdS (getV (l.take i) xc+xq) ((i+1)*(5*k+1)+1),PP.any] [] [8,7,6,5,4,3,2,1,0] ?_ ?_ ?_ ?_ ?_
    ·intro x hx;simp only[List.mem_singleton]at hx;subst hx;exact⟨by show g5<wr.heap.size;omega,rfl⟩
    ·intro x hx;simp only[List.mem_singleton]at hx;subst hx;rfl
    ·intro x hx y hy h;simp only[List.mem_singleton]at hx hy;subst hx hy;exact absurd rfl h
    ·refine⟨?_,?_,?_,?_,?_,?_,?_,?_,?_,trivial⟩
     ·intro f w6 hG hp hl;have hE:Ext wr w6:=hG;change OpGoal _ _ _ f w6 Ext _;exact og_load (P:=Tryz.prog) _ _ g5 _ _ _ rfl rfl rfl (hbx.ext hE) Tryz.underlying56 rfl (by kernel_rfl) rfl
     ·intro f w6 hG hp hl;simp only[OpGoal];go_simp;exact⟨_,rfl,Ext.refl _,rfl⟩
     ·intro f w6 hG hp hl;simp only[OpGoal];go_simp;exact⟨_,rfl,Ext.refl _,rfl⟩
     ·intro f w6 hG hp hl;have q26:=tE hp 0 1 rfl rfl rfl;have q27:=tE hp 1 2 rfl rfl rfl;simp only[OpGoal];go_simp;exact⟨_,rfl,Ext.refl _,rfl⟩
     ·intro f w6 hG hp hl;have q28:=tE hp 0 3 rfl rfl rfl;simp only[OpGoal];go_simp;exact⟨_,rfl,Ext.refl _,rfl⟩
     ·intro f w6 hG hp hl;have hE:Ext wr w6:=hG;have q29:=tE hp 0 4 rfl rfl rfl;change OpGoal _ _ _ f w6 Ext _;exact og_loadAt (P:=Tryz.prog) _ _ g (off+i*4+1) _ _ rfl rfl q29 (fun j v h=>hcl.out _ hE j v h) Tryz.underlying41 rfl (by kernel_rfl) rfl
     ·intro f w6 hG hp hl;have hE:Ext wr w6:=hG;have hS:=hE.size;have q30:=tE hp 0 5 rfl rfl rfl;change OpGoal _ _ _ f w6 Ext _;refine oC #[f 5] Tryz.func31 rfl rfl ?_;rw[q30];refine(rqofR_calls _ xq k _ (HX.out.2.ext hE) hk).mono ?_;rintro e w' ⟨v',rfl,h1,h2⟩;exact⟨v',rfl,h2,h1.mono hS⟩
     ·intro f w6 hG hp hl;have hE:Ext wr w6:=hG;have hS:=hE.size;have q25:=tE hp 0 0 rfl rfl rfl;have q31:=tellV hp 1 6 rfl rfl (fun _=>hE);change OpGoal _ _ _ f w6 Ext _;refine oC #[f 0,f 6] Tryz.func37 rfl rfl ?_;rw[q25];refine(rqadd3_calls _ _ (getV (l.take i) xc) xq (i*(5*k+1)+1) (5*k) _ (HQ.out.ext hE).cq q31.cq HSZ.out (szD_of HX.out.2.sz) (by omega)).mono ?_;rintro e w' ⟨v',rfl,h1,h3,h2⟩;exact⟨v',rfl,h2,h1.mono hS,by omega⟩
     ·intro f w6 hG hp hl;have hE:Ext wr w6:=hG;have hS:=hE.size;have q32:=tellV hp 0 7 rfl rfl (fun _=>hE);intro hg0;change OpGoal _ _ _ f w6 (Chg _) _;obtain⟨⟨s',t',hv,hn,hm⟩,hsz⟩:=q32;exact og_store (P:=Tryz.prog) _ _ _ g5 _ _ _ (PP.frQdS _ _:PP _).p rfl rfl rfl hv (show Bx 56 w6 _ _ from hg0.trans hbx) (by kernel_rfl) rfl (all3 rfl hn.oneCell hm.oneCell) (fun w' h=>⟨⟨s',t',rfl,hn.chg h (by omega),hm.chg h (by omega)⟩,hsz⟩)
    ·intro f w6 hG hp;obtain⟨cs0,hbx0,hz0⟩:∃cs,Bx 56 w6 g5 cs∧(PP.frQdS (getV (l.take i) xc+xq) ((i+1)*(5*k+1)+1):PP wr.heap.size).p (.agg cs) w6:=endS hp 8 (by decide);clear hp;obtain⟨hz1,hz2⟩:=hz0;obtain⟨b6,a6,l6,cap6,a7,l7,cap7,hvv,hz1⟩:=hz1.opn
     cases hvv
     have Hq6:=Lib.hid hz1;have Z6:=Lib.hid hz2;have hsz6:=hE0.size;have E6:Ext w w6:=hE0.stepS hG (by simp;omega);have B06:Bx 56 w6 w.heap.size #[.bool false,.slice none 0 0,.slice none 0 0]:=hB0.chgS hG (by simp;omega)
     have hgv:getV (l.take (i+1)) xc=getV (l.take i) xc+xq:=by rw[HTK.out,getV_snoc,if_pos ⟨rfl,hc0'⟩]
     have HGV:=Lib.hid hgv;clear hz1 hz2 hgv;go_wp2;go_roundw
     case rel=>
      refine⟨i+1,by omega,congrArg (Value.int .i64) (by omega),Lib.hid ⟨⟨E6,_,_,_,_,_,_,_,hbx0,?_,?_⟩,B06⟩⟩
      ·rw[HGV.out];exact Hq6.out.mono hsz6
      ·rw[HGV.out];exact Z6.out
     case measure=>simp [intOf];omega
   ·have hgv:getV (l.take (i+1)) c=getV (l.take i) c:=by rw[HTK.out,getV_snoc,if_neg hcc,Rat.add_zero]
    have HGV:=Lib.hid hgv;clear hgv
    by_cases hxc:xc=c
    ·subst hxc
     have hc0':¬0≤xc:=fun h=>hcc ⟨rfl,h⟩
     clear hcc;go_wp2;go_roundw
     case rel=>
      refine⟨i+1,by omega,congrArg (Value.int .i64) (by omega),Lib.hid ⟨⟨hE0,_,_,_,_,_,_,_,hbx,?_,?_⟩,hB0⟩⟩
      ·rw[HGV.out];exact HQ.out
      ·rw[HGV.out]
       have:=HSZ.out
       omega
     case measure=>simp [intOf];omega
    ·clear hcc;go_wp2;go_roundw
     case rel=>
      refine⟨i+1,by omega,congrArg (Value.int .i64) (by omega),Lib.hid ⟨⟨hE0,_,_,_,_,_,_,_,hbx,?_,?_⟩,hB0⟩⟩
      ·rw[HGV.out];exact HQ.out
      ·rw[HGV.out]
       have:=HSZ.out
       omega
     case measure=>simp [intOf];omega
def insI(x:Int):List Int→List Int
 | []=> [x]
 |y::l=>if x<y then x::y::l else if x=y then y::l else y::insI x l
theorem insI_all{x:Int}:∀{l:List Int},(∀y∈l,y<x)→insI x l=l++ [x]
 | [],_=>rfl
 |y::l,h=>by
  have h1:=h y (List.mem_cons_self ..);unfold insI;rw[if_neg (by omega),if_neg (by omega),insI_all fun z hz=>h z (List.mem_cons_of_mem _ hz)]
  rfl
theorem insI_mid{x y:Int}(hxy:x<y):∀{l:List Int},(∀z∈l,z<x)→insI x (l++ [y])=l++ [x]++ [y]
 | [],_=>by simp[insI,hxy]
 |z::l,h=>by
  have h1:=h z (List.mem_cons_self ..);rw[List.cons_append];unfold insI;rw[if_neg (by omega),if_neg (by omega),insI_mid hxy fun z hz=>h z (List.mem_cons_of_mem _ hz)]
  rfl
theorem insI_snoc{x y:Int}:∀{l:List Int},(∃z∈l,x<z)→insI x (l++ [y])=insI x l++ [y]
 | [],h=>by obtain⟨z,hz, -⟩:=h;cases hz
 |a::l,h=>by
  rw[List.cons_append];unfold insI
  by_cases h1:x<a
  ·rw[if_pos h1,if_pos h1]
   rfl
  ·rw[if_neg h1,if_neg h1]
   by_cases h2:x=a
   ·rw[if_pos h2,if_pos h2]
    rfl
   ·rw[if_neg h2,if_neg h2];obtain⟨z,hz,hxz⟩:=h
    rcases List.mem_cons.1 hz with rfl |hz
    ·exact absurd hxz h1
    ·rw[insI_snoc ⟨z,hz,hxz⟩]
     rfl
theorem insI_in{x:Int}:∀{l:List Int},l.Pairwise (· < ·)→x∈l→insI x l=l
 | [],_,h=>by cases h
 |y::l,hp,h=>by
  rw[List.pairwise_cons]at hp;unfold insI
  rcases List.mem_cons.1 h with rfl |h
  ·rw[if_neg (by omega),if_pos rfl]
  ·have:=hp.1 x h
   rw[if_neg (by omega),if_neg (by omega),insI_in hp.2 h]
theorem insI_len(x:Int):∀l:List Int,(insI x l).length≤l.length+1
 | []=>by simp[insI]
 |y::l=>by
  have:=insI_len x l
  unfold insI
  split
  ·simp
  ·split
   ·simp
   ·simp;omega
theorem insI_mem(x y:Int):∀l:List Int,y∈insI x l↔y=x∨y∈l
 | []=>by simp[insI]
 |z::l=>by
  have:=insI_mem x y l
  unfold insI
  split
  ·simp
  ·split
   ·rename_i h1 h2
    subst h2
    simp
   ·rw[List.mem_cons,this,List.mem_cons]
    constructor
    ·rintro(h |h |h)
     ·exact .inr (.inl h)
     ·exact .inl h
     ·exact .inr (.inr h)
    ·rintro(h |h |h)
     ·exact .inr (.inl h)
     ·exact .inl h
     ·exact .inr (.inr h)
theorem insI_asc(x:Int):∀{l:List Int},l.Pairwise (· < ·)→(insI x l).Pairwise (· < ·)
 | [],_=>by simp[insI]
 |y::l,h=>by
  have h0:=h;rw[List.pairwise_cons]at h;unfold insI
  split
  ·rename_i h1
   refine List.pairwise_cons.2 ⟨fun z hz=> ?_,h0⟩
   rcases List.mem_cons.1 hz with rfl |hz
   ·exact h1
   ·have:=h.1 z hz
    omega
  ·split
   ·exact h0
   ·refine List.pairwise_cons.2 ⟨fun z hz=> ?_,insI_asc x h.2⟩
    rcases(insI_mem x z l).1 hz with rfl |hz
    ·omega
    ·exact h.1 z hz
def plF(out:List Int)(p:Int×Rat):List Int:=if 0≤p.1 then insI p.1 out else out
def placesV(l:List (Int×Rat)):List Int:=l.foldl plF []
theorem places_aux(l:List (Int×Rat)):∀acc:List Int,acc.Pairwise (· < ·)→(l.foldl plF acc).Pairwise (· < ·)∧(∀c,c∈l.foldl plF acc↔c∈acc∨(0≤c∧∃x∈l,x.1=c))∧(l.foldl plF acc).length≤acc.length+l.length:=by
 induction l with
 |nil=>intro acc h;exact⟨h,fun c=>by simp,by simp⟩
 |cons p l ih=>
  intro acc h;rw[List.foldl_cons]
  by_cases hp:0≤p.1
  ·have e:plF acc p=insI p.1 acc:=if_pos hp
   rw[e];obtain⟨h1,h2,h3⟩:=ih (insI p.1 acc) (insI_asc _ h);have h4:=insI_len p.1 acc;refine⟨h1,fun c=> ?_,by rw[List.length_cons];omega⟩;rw[h2,insI_mem]
   constructor
   ·rintro((rfl |h) |⟨h5,x,h6,h7⟩)
    ·exact .inr ⟨hp,p,List.mem_cons_self ..,rfl⟩
    ·exact .inl h
    ·exact .inr ⟨h5,x,List.mem_cons_of_mem _ h6,h7⟩
   ·rintro(h |⟨h5,x,h6,h7⟩)
    ·exact .inl (.inr h)
    ·rcases List.mem_cons.1 h6 with rfl |h6
     ·exact .inl (.inl h7.symm)
     ·exact .inr ⟨h5,x,h6,h7⟩
  ·have e:plF acc p=acc:=if_neg hp
   rw[e];obtain⟨h1,h2,h3⟩:=ih acc h;refine⟨h1,fun c=> ?_,by rw[List.length_cons];omega⟩;rw[h2]
   constructor
   ·rintro(h |⟨h5,x,h6,h7⟩)
    ·exact .inl h
    ·exact .inr ⟨h5,x,List.mem_cons_of_mem _ h6,h7⟩
   ·rintro(h |⟨h5,x,h6,h7⟩)
    ·exact .inl h
    ·rcases List.mem_cons.1 h6 with rfl |h6
     ·omega
     ·exact .inr ⟨h5,x,h6,h7⟩
theorem places_asc(l:List (Int×Rat)):(placesV l).Pairwise (· < ·):=(places_aux l [] List.Pairwise.nil).1
theorem places_mem(l:List (Int×Rat))(c:Int):c∈placesV l↔0≤c∧∃x∈l,x.1=c:=by
 rw[placesV,(places_aux l [] List.Pairwise.nil).2.1]
 simp
theorem places_len(l:List (Int×Rat)):(placesV l).length≤l.length:=by
 have:=(places_aux l [] List.Pairwise.nil).2.2
 unfold placesV
 simpa using this
theorem places_snoc(l:List (Int×Rat))(p:Int×Rat):placesV (l++ [p])=plF (placesV l) p:=by
 unfold placesV;rw[List.foldl_append]
 rfl
theorem getV_map(f:Int→Rat):∀{ps:List Int},ps.Pairwise (· < ·)→(∀c∈ps,0≤c)→Up (ps.map fun c=>(c,f c))∧∀c,getV (ps.map fun c=>(c,f c)) c=if c∈ps then f c else 0
 | [],_,_=>⟨Up.nil,fun c=>by simp[getV_nil]⟩
 |p::ps,h,h0=>by
  rw[List.pairwise_cons]at h
  obtain⟨i1,i2⟩:=getV_map f h.2 fun c hc=>h0 c (List.mem_cons_of_mem _ hc)
  have hu:Up ((p::ps).map fun c=>(c,f c)):=by
   refine⟨List.pairwise_cons.2 ⟨fun y hy=> ?_,i1.1⟩,fun x hx=> ?_⟩
   ·obtain⟨c,hc,rfl⟩:=List.mem_map.1 hy;exact h.1 c hc
   ·obtain⟨c,hc,rfl⟩:=List.mem_map.1 hx;exact h0 c hc
  refine⟨hu,fun c=> ?_⟩;rw[List.map_cons]at hu ⊢;rw[hu.getV_cons,i2]
  simp only
  by_cases hc:c=p
  ·rw[if_pos hc,if_pos (by rw[hc];exact List.mem_cons_self ..),hc]
  ·rw[if_neg hc]
   by_cases hm:c∈ps
   ·rw[if_pos hm,if_pos (List.mem_cons_of_mem _ hm)]
   ·rw[if_neg hm,if_neg fun h=>(List.mem_cons.1 h).elim hc hm]
theorem mk5_eq(l:List (Int×Rat)):nz ((placesV l).map fun c=>(c,getV l c))=mkV l:=by
 obtain⟨h1,h2⟩:=getV_map (getV l) (places_asc l) fun c hc=>((places_mem l c).1 hc).1
 refine mkV_eq h1.nz fun c=> ?_
 rw[getV_nz,h2]
 split
 ·rfl
 ·rename_i hc
  rw[places_mem]at hc;unfold getV
  split
  ·rename_i h0
   exact(sumAt_none fun x hx he=>hc ⟨h0,x,hx,he⟩).symm
  ·rfl
def IL(B:Nat)(w:World)(v:Value)(xs:List Int):Prop:=w.ownsRow B 3 1 v xs.length (xs.map (Value.int .i64))
theorem IL.ext{B:Nat}{w w':World}{v:Value}{xs:List Int}(h:IL B w v xs)(he:Ext w w'):IL B w' v xs:=by
 refine⟨h.1,?_⟩
 rcases h.2 with h2 |⟨g,cap,cur,h1,h2,h3,h4⟩
 ·exact .inl h2
 ·exact .inr ⟨g,cap,cur,h1,h2,he.blk h3,h4⟩
theorem IL.mono{B B':Nat}{w:World}{v:Value}{xs:List Int}(h:IL B w v xs)(hB:B'≤B):IL B' w v xs:=by
 refine⟨h.1,?_⟩
 rcases h.2 with h2 |⟨g,cap,cur,h1,h2,h3⟩
 ·exact .inl h2
 ·exact .inr ⟨g,cap,cur,h1,Nat.le_trans hB h2,h3⟩
theorem IL.ge{B:Nat}{w:World}{v:Value}{xs:List Int}(h:IL B w v xs):∀g,v.ownBlock=some g→B≤g:=by
 intro g hg
 rcases h.2 with⟨h1,h2⟩ |⟨g',cap,cur,h1,h2,h3,h4⟩
 ·rw[h1]at hg;cases hg
 ·rw[h1]at hg;simp only[Value.ownBlock,Option.some.injEq]at hg;subst hg;exact h2
theorem IL.opn{B:Nat}{w:World}{v:Value}{xs:List Int}(h:IL B w v xs):∃ad cap,v= .slice ad xs.length cap∧∀(i:Nat) (x:Int),xs[i]? =some x→∃g,ad=some ⟨g,0,none⟩∧∀wz,Ext w wz→wz.cell? ⟨g,i,none⟩=some (.int .i64 x):=by
 rcases h.2 with⟨h1,h2⟩ |⟨g,cap,cur,h1,h2,h3,h4,h5,h6,h7⟩
 ·exact⟨none,0,by rw[h1,h2],fun i x hi=>by rw[List.eq_nil_of_length_eq_zero h2]at hi;simp at hi⟩
 ·refine⟨_,cap,h1,fun i x hi=>⟨g,rfl,fun wz hz=> ?_⟩⟩;have hb:Bx 3 wz g cur:=hz.blk h3;rw[hb.cell i];have h8:=congrArg (fun l=>l[i]?) h7;simp only[Nat.mul_one]at h8;rw[List.getElem?_take,if_pos (List.getElem?_eq_some_iff.1 hi).1,List.getElem?_map,hi,Array.getElem?_toList]at h8;exact h8
theorem IL.at{B n cap:Nat}{w:World}{pad:Option Addr}{xs:List Int}(h:IL B w (.slice pad n cap) xs){i:Nat}{x:Int}(hi:xs[i]? =some x):∃g,pad=some ⟨g,0,none⟩∧∀wz,Ext w wz→wz.cell? ⟨g,i,none⟩=some (.int .i64 x):=by
 obtain⟨ad,cap',e,f⟩:=h.opn;simp only[Value.slice.injEq]at e;obtain⟨rfl, -, -⟩:=e;exact f i x hi
theorem IL.chgT{B p:Nat}{w w':World}{v:Value}{xs:List Int}{t:TypeId}{cs:Array Value}(h:IL B w v xs)(he:Chg p w w')(hp:Bx t w p cs)(ht:t≠3):IL B w' v xs:=by
 refine⟨h.1,?_⟩
 rcases h.2 with h2 |⟨g,cap,cur,h1,h2,h3,h4⟩
 ·exact .inl h2
 ·refine .inr ⟨g,cap,cur,h1,h2,he.blk h3 ?_,h4⟩;rintro rfl;unfold Bx at hp;rw[h3]at hp;simp only[Option.some.injEq,Obj.cells.injEq]at hp;exact ht hp.2.1.symm
theorem IL.empty(B:Nat)(w:World)(hB:B≤w.heap.size):IL B (w.alloc (.cells #[] 3)) (.slice (some ⟨w.heap.size,0,none⟩) 0 0) []:=
 ⟨rfl,.inr ⟨w.heap.size,0,#[],rfl,hB,Bx.new w _ #[],Nat.le_refl _,by unfold maxLen;omega,rfl,rfl⟩⟩
theorem emptyI(w:World):(Instr.buildSlice 52 0 #[]).run Tryz.prog w= .ok (.slice (some ⟨w.heap.size,0,none⟩) 0 0) (w.alloc (.cells #[] 3)):=by kernel_rfl
theorem ownsRow_extI{B e size n:Nat}{w w':World}{v:Value}{xs:List Value}(h:w.ownsRow B e size v n xs)(he:Ext w w'):w'.ownsRow B e size v n xs:=by
 refine⟨h.1,?_⟩
 rcases h.2 with h2 |⟨g,cap,cur,h1,h2,h3,h4⟩
 ·exact .inl h2
 ·exact .inr ⟨g,cap,cur,h1,h2,he.blk h3,h4⟩
def InJ(d:Bool)(x:Int)(L:List Int)(i:Nat)(out:List Int):Prop:=
 (d=false∧out=L.take i∧∀y∈L.take i,y<x)∨(d=true∧out=insI x (L.take i)∧x∉L∧∃z∈L.take i,x<z)
theorem InJ.len{d:Bool}{x:Int}{L:List Int}{i:Nat}{out:List Int}(h:InJ d x L i out):out.length≤i+1:=by
 have h0:=List.length_take_le i L
 rcases h with⟨-,rfl, -⟩ |⟨-,rfl, -⟩
 ·omega
 ·have:=insI_len x (L.take i)
  omega
theorem take_next{α:Type}{L:List α}{i:Nat}{y:α}(h:L[i]? =some y):L.take (i+1)=L.take i++ [y]:=by rw[List.take_add_one,h];rfl
set_option maxHeartbeats 4000000 in
theorem insert_calls(B:Nat)(v:Value)(L:List Int)(x:Int)(w:World)(h:IL B w v L)(hL:L.Pairwise (· < ·))(hn:L.length≤1000000)(hB:B≤w.heap.size):
  Calls Tryz.prog 192 #[v,.int .i64 x] w fun e w'=>∃v',e= .returned v'∧IL B w' v' (insI x L)∧Ext w w':=by
 obtain⟨ad,cap,rfl,hat⟩:=h.opn;obtain⟨n,hnl⟩:∃n,n=L.length:=⟨_,rfl⟩;rw[←hnl]at hn h ⊢;have HN:=Lib.hid hnl;have H:=Lib.hid h;have HAT:=Lib.hid hat;have HL:=Lib.hid hL;have eb:=emptyI;clear h hnl hat hL
 go_enter Tryz.func192,Tryz.ntmps192
 go_wp2_with fail
 go_loopw [5,6,7] (fun s5 s6 s7 wr=>∃(i:Nat) (d:Bool) (out:List Int) (ado:Option Addr) (capo:Nat),i≤n∧s7= .int .i64 (i:Int)∧s6= .bool d∧s5= .slice ado out.length capo∧Hid (InJ d x L i out∧IL w.heap.size wr (.slice ado out.length capo) out)∧Ext w wr) (fun _ _ s7 _=>((n:Int) - intOf s7).toNat)
 case atStart=>exact ⟨0,false,[],some ⟨w.heap.size,0,none⟩,0,Nat.zero_le _,rfl,rfl,rfl,Lib.hid ⟨.inl ⟨rfl,rfl,fun y hy=>by simp at hy⟩,IL.empty _ _ (Nat.le_refl _)⟩,(Ext.refl _).alloc _⟩
 case round=>
  obtain⟨i,d,out,ado,capo,hi,rfl,rfl,rfl,hS,hE0⟩:=hrel;have hwr:=hE0.size;have hol:=hS.out.1.len
  rcases Nat.eq_or_lt_of_le hi with hin |hin
  ·subst hin
   have hlt:¬((i:Int)<(i:Int)):=by omega
   have htk:L.take i=L:=by rw[HN.out,List.take_length]
   have HTK:=Lib.hid htk;clear htk
   cases d with
   |true=>
    have hF:Hid (out=insI x L):=by
     rcases hS.out.1 with⟨h1, -⟩ |⟨-,h1, -⟩
     ·cases h1
     ·rw[HTK.out]at h1;exact Lib.hid h1
    go_wp2;go_ret;exact⟨_,rfl,by rw[←hF.out];exact hS.out.2.mono hB,hE0⟩
   |false=>
    have hF:Hid (insI x L=out++ [x]):=by
     rcases hS.out.1 with⟨-,h1,h2⟩ |⟨h1, -⟩
     ·rw[HTK.out]at h1 h2;rw[h1];exact Lib.hid (insI_all h2)
     ·cases h1
    go_wp2_with (first
     | (at_builtin;go_loud (refine wpList_append_V rfl _ _ 52 rfl 3 8 w.heap.size Tryz.underlying52 (by kernel_rfl) (by kernel_rfl) _ out.length (out.map (Value.int .i64)) rfl (hS.out.2.ext ((Ext.refl _).alloc _)) ⟨wr.heap.size,0,none⟩ (.int .i64 x) rfl (cell_one_new _ _ _) rfl (by omega) (by omega) (by rw[alloc_size];omega) ?_);intro g' cap2' w7 hls7 hg7 hwh7 hlt7)
     |fail)
    go_wp2;go_ret;have hA:=(Ext.refl wr).alloc (.cells #[.int .i64 x] 3);refine⟨_,rfl,?_,(hE0.trans hA).stepG hg7 hS.out.2.ge⟩;rw[hF.out]
    have:IL w.heap.size w7 (.slice (some ⟨g',0,none⟩) (out.length+1) cap2') (out++ [x]):=by
     unfold IL;rw[List.map_append,List.length_append];exact hls7
    exact this.mono hB
  ·have hlt:(i:Int)<(n:Int):=by omega
   obtain⟨y,hy⟩:∃y,L[i]? =some y:=⟨_,List.getElem?_eq_getElem (by rw[←HN.out];exact hin)⟩;obtain⟨g,rfl,hcell⟩:=HAT.out i y hy;have hc:=hcell wr hE0;have HY:=Lib.hid hy;have HTK:=Lib.hid (take_next hy);have hmem:y∈L:=List.mem_of_getElem? hy;have HM:=Lib.hid hmem;have HCL:=Lib.hid hcell;clear hcell hy hmem
   by_cases hyx:y=x
   ·subst hyx
    have hF:Hid (insI y L=L):=Lib.hid (insI_in HL.out HM.out)
    go_wp2;go_ret;rw[hF.out];exact⟨_,rfl,H.out.ext hE0,hE0⟩
   ·cases d with
    |true=>
     have hJ:Hid (InJ true x L (i+1) (out++ [y])):=by
      rcases hS.out.1 with⟨h1, -⟩ |⟨-,h1,h2,z,h3,h4⟩
      ·cases h1
      ·refine Lib.hid (.inr ⟨rfl,?_,h2,z,by rw[HTK.out];exact List.mem_append_left _ h3,h4⟩);rw[HTK.out,insI_snoc ⟨z,h3,h4⟩,h1]
     go_wp2_with (first
      | (at_builtin;go_loud (refine wpList_append_V rfl _ _ 52 rfl 3 8 w.heap.size Tryz.underlying52 (by kernel_rfl) (by kernel_rfl) _ out.length (out.map (Value.int .i64)) rfl (hS.out.2.ext ((Ext.refl _).alloc _)) ⟨wr.heap.size,0,none⟩ (.int .i64 y) rfl (cell_one_new _ _ _) rfl (by omega) (by omega) (by rw[alloc_size];omega) ?_);intro g' cap2' w7 hls7 hg7 hwh7 hlt7)
      |fail)
     go_roundw
     case rel=>
      have hA:=(Ext.refl wr).alloc (.cells #[.int .i64 y] 3)
      have:IL w.heap.size w7 (.slice (some ⟨g',0,none⟩) (out++ [y]).length cap2') (out++ [y]):=by
       unfold IL;rw[List.map_append,List.length_append];exact hls7
      exact⟨i+1,true,out++ [y],some ⟨g',0,none⟩,cap2',by omega,by simp,rfl,by simp,Lib.hid ⟨hJ.out,this⟩,(hE0.trans hA).stepG hg7 hS.out.2.ge⟩
     case measure=>simp [intOf];omega
    |false=>
     have hS1:Hid (out=L.take i∧∀z∈L.take i,z<x):=by
      rcases hS.out.1 with⟨-,h1⟩ |⟨h1, -⟩
      ·exact Lib.hid h1
      ·cases h1
     by_cases hxy:x<y
     ·have hJ:Hid (InJ true x L (i+1) (out++ [x]++ [y])):=by
       refine Lib.hid (.inr ⟨rfl,?_,?_,y,by rw[HTK.out];simp,hxy⟩)
       ·rw[HTK.out,insI_mid hxy hS1.out.2,hS1.out.1]
       ·intro hx;obtain⟨j,hj⟩:=List.getElem?_of_mem hx;have h2:=List.pairwise_iff_getElem.1 HL.out;obtain⟨j1,j2⟩:=List.getElem?_eq_some_iff.1 hj;obtain⟨i1,i2⟩:=List.getElem?_eq_some_iff.1 HY.out
        rcases Nat.lt_trichotomy j i with h3 |h3 |h3
        ·have:=hS1.out.2 x (by
          rw[←j2]
          exact List.mem_of_getElem? (i:=j) (by rw[List.getElem?_take,if_pos h3,hj,j2]))
         omega
        ·subst h3;rw[HY.out]at hj;simp only[Option.some.injEq]at hj
         omega
        ·have:=h2 i j i1 j1 h3
         omega
      go_wp2_with (first
       | (at_builtin;go_loud (refine wpList_append_V rfl _ _ 52 rfl 3 8 w.heap.size Tryz.underlying52 (by kernel_rfl) (by kernel_rfl) _ out.length (out.map (Value.int .i64)) rfl (hS.out.2.ext ((Ext.refl _).alloc _)) ⟨wr.heap.size,0,none⟩ (.int .i64 x) rfl (cell_one_new _ _ _) rfl (by omega) (by omega) (by rw[alloc_size];omega) ?_);intro g' cap2' w7 hls7 hg7 hwh7 hlt7;have hE7:Ext w w7:=(hE0.trans ((Ext.refl wr).alloc (.cells #[.int .i64 x] 3))).stepG hg7 hS.out.2.ge;have hw7:=hE7.size;have hc7:=HCL.out w7 hE7)
       | (at_builtin;go_loud (refine wpList_append_V rfl _ _ 52 rfl 3 8 w.heap.size Tryz.underlying52 (by kernel_rfl) (by kernel_rfl) _ (out.length+1) (out.map (Value.int .i64)++ [.int .i64 x]) rfl (ownsRow_extI hls7 ((Ext.refl _).alloc _)) ⟨w7.heap.size,0,none⟩ (.int .i64 y) rfl (cell_one_new _ _ _) rfl (by omega) (by omega) (by rw[alloc_size];omega) ?_);intro g'' cap2'' w8 hls8 hg8 hwh8 hlt8)
       |fail)
      go_roundw
      case rel=>
       have hA:=(Ext.refl w7).alloc (.cells #[.int .i64 y] 3)
       have h7:IL w.heap.size w7 (.slice (some ⟨g',0,none⟩) (out.length+1) cap2') (out++ [x]):=by
        unfold IL;rw[List.map_append,List.length_append];exact hls7
       have:IL w.heap.size w8 (.slice (some ⟨g'',0,none⟩) (out++ [x]++ [y]).length cap2'') (out++ [x]++ [y]):=by
        unfold IL;rw[List.map_append,List.map_append,List.length_append,List.length_append];exact hls8
       exact⟨i+1,true,out++ [x]++ [y],some ⟨g'',0,none⟩,cap2'',by omega,by simp,rfl,by simp,Lib.hid ⟨hJ.out,this⟩,(hE7.trans hA).stepG hg8 h7.ge⟩
      case measure=>simp [intOf];omega
     ·have hJ:Hid (InJ false x L (i+1) (out++ [y])):=by
       refine Lib.hid (.inl ⟨rfl,by rw[HTK.out,hS1.out.1],fun z hz=> ?_⟩);rw[HTK.out]at hz
       rcases List.mem_append.1 hz with hz |hz
       ·exact hS1.out.2 z hz
       ·rw[List.mem_singleton]at hz
        omega
      go_wp2_with (first
       | (at_builtin;go_loud (refine wpList_append_V rfl _ _ 52 rfl 3 8 w.heap.size Tryz.underlying52 (by kernel_rfl) (by kernel_rfl) _ out.length (out.map (Value.int .i64)) rfl (hS.out.2.ext ((Ext.refl _).alloc _)) ⟨wr.heap.size,0,none⟩ (.int .i64 y) rfl (cell_one_new _ _ _) rfl (by omega) (by omega) (by rw[alloc_size];omega) ?_);intro g' cap2' w7 hls7 hg7 hwh7 hlt7)
       |fail)
      go_roundw
      case rel=>
       have hA:=(Ext.refl wr).alloc (.cells #[.int .i64 y] 3)
       have:IL w.heap.size w7 (.slice (some ⟨g',0,none⟩) (out++ [y]).length cap2') (out++ [y]):=by
        unfold IL;rw[List.map_append,List.length_append];exact hls7
       exact⟨i+1,false,out++ [y],some ⟨g',0,none⟩,cap2',by omega,by simp,rfl,by simp,Lib.hid ⟨hJ.out,this⟩,(hE0.trans hA).stepG hg7 hS.out.2.ge⟩
      case measure=>simp [intOf];omega
set_option maxHeartbeats 4000000 in
theorem places_calls(k:Nat)(v:Value)(l:List (Int×Rat))(w:World)(hl:TL k w v l)(hn:l.length≤1000000):
  Calls Tryz.prog 160 #[v] w fun e w'=>∃v',e= .returned v'∧IL w.heap.size w' v' (placesV l)∧Ext w w':=by
 obtain⟨ad,n,cap,hnl,rfl,hn1,hat⟩:=hl.at;rw[←hnl]at hn;have Hn:=Lib.hid hnl;have Hat:=Lib.hid hat;have eb:=emptyI;clear hnl hl hat
 go_enter Tryz.func160,Tryz.ntmps160
 go_wp2_with fail
 go_loopw [3,4] (fun s3 s4 wr=>∃i:Nat,i≤n∧s4= .int .i64 (i:Int)∧Hid (IL w.heap.size wr s3 (placesV (l.take i)))∧Ext w wr) (fun _ s4 _=>((n:Int) - intOf s4).toNat)
 case atStart=>exact ⟨0,Nat.zero_le _,rfl,Lib.hid (IL.empty _ _ (Nat.le_refl _)),(Ext.refl _).alloc _⟩
 case round=>
  obtain⟨i,hi,rfl,hH,hE0⟩:=hrel
  rcases Nat.eq_or_lt_of_le hi with hin |hin
  ·subst hin
   have hlt:¬((i:Int)<(i:Int)):=by omega
   have htk:l.take i=l:=by rw[Hn.out,List.take_length]
   have HTK:=Lib.hid htk;clear htk;go_wp2;go_ret;exact⟨_,rfl,by have:=hH.out;rwa [HTK.out]at this,hE0⟩
  ·have hlt:(i:Int)<(n:Int):=by omega
   obtain⟨x,hx⟩:∃x,l[i]? =some x:=⟨_,List.getElem?_eq_getElem (by rw[←Hn.out];exact hin)⟩;obtain⟨g,off,rfl,b',a1,n1,c1,a2,n2,c2,hcell⟩:=Hat.out i x hx;obtain⟨hc0, -, -, -, -⟩:=hcell wr hE0;obtain⟨xc,xq⟩:=x
   have hpl:placesV (l.take (i+1))=plF (placesV (l.take i)) (xc,xq):=by rw[take_next hx,places_snoc]
   have HPL:=Lib.hid hpl;have hwr:=hE0.size
   simp only at hc0
   clear hx hcell hpl
   by_cases h0:0≤xc
   ·have hpl2:Hid (placesV (l.take (i+1))=insI xc (placesV (l.take i))):=Lib.hid (by rw[HPL.out];exact if_pos h0)
    go_wp2_with fail;refine(insert_calls w.heap.size _ (placesV (l.take i)) xc wr hH.out (places_asc _) (by have h1:=places_len (l.take i);have h2:=List.length_take_le i l;omega) hwr).mono ?_;rintro e w2 ⟨v2,rfl,hI,e2⟩;have HI:=Lib.hid hI;clear hI;go_wp2;go_roundw
    case rel=>exact ⟨i+1,by omega,by simp,Lib.hid (by rw[hpl2.out];exact HI.out),hE0.trans e2⟩
    case measure=>simp [intOf];omega
   ·have hpl2:Hid (placesV (l.take (i+1))=placesV (l.take i)):=Lib.hid (by rw[HPL.out];exact if_neg h0)
    go_wp2;go_roundw
    case rel=>exact ⟨i+1,by omega,by simp,Lib.hid (by rw[hpl2.out];exact hH.out),hE0⟩
    case measure=>simp [intOf];omega
theorem gT_own{B n g cap:Nat}{w w3:World}{vs:List Value}(hown:LS 95 4 B w (.slice (some ⟨g,0,none⟩) n cap) vs)(hE:Ext w w3):
  (∃cs,Bx 95 w3 g cs)∧(∀wa wb:World,wa.grownBy wb (Value.slice (some ⟨g,0,none⟩) n cap).ownBlock→Chg g wa wb)∧B≤g:=by
 rcases hown.2.2 with⟨h1,h2⟩ |⟨g',cap',cur,h1,h2,h3,h4⟩
 ·cases h1
 ·cases h1
  exact⟨⟨cur,hE.blk h3⟩,fun wa wb h=>h,h2⟩
theorem emptyT(w:World):(Instr.buildSlice 31 0 #[]).run Tryz.prog w= .ok (.slice (some ⟨w.heap.size,0,none⟩) 0 0) (w.alloc (.cells #[] 95)):=by kernel_rfl
theorem LS.empty(e:TypeId)(n B:Nat)(w:World)(hB:B≤w.heap.size):LS e n B (w.alloc (.cells #[] e)) (.slice (some ⟨w.heap.size,0,none⟩) 0 0) []:=
 LS.of_hold (vs:=[]) (rest:=[]) (.nil n) hB (Nat.le_refl _) (by decide) (by simp) (Bx.new w e #[])
theorem TO.empty(B K:Nat)(w:World)(hB:B≤w.heap.size):TO B K (w.alloc (.cells #[] 95)) (.slice (some ⟨w.heap.size,0,none⟩) 0 0) []:=⟨[],rfl,LS.empty _ _ _ _ hB,fun i t x h=>by simp at h⟩
def mkP(l:List (Int×Rat))(ps:List Int)(i:Nat):List (Int×Rat):=nz ((ps.take i).map fun c=>(c,getV l c))
theorem mkP_out{l:List (Int×Rat)}{ps:List Int}{i:Nat}{c:Int}(h:ps[i]? =some c)(h0:getV l c=0):mkP l ps (i+1)=mkP l ps i:=by
 unfold mkP;rw[take_next h,List.map_append];unfold nz;rw[List.filter_append]
 simp[h0]
theorem mkP_in{l:List (Int×Rat)}{ps:List Int}{i:Nat}{c:Int}(h:ps[i]? =some c)(h0:getV l c≠0):mkP l ps (i+1)=mkP l ps i++ [(c,getV l c)]:=by
 unfold mkP;rw[take_next h,List.map_append];unfold nz;rw[List.filter_append]
 simp[h0]
theorem num_sign_eq{q:Rat}:q.num.sign=0↔q=0:=by
 rw[Int.sign_eq_zero_iff_zero,Rat.num_eq_zero]
set_option maxHeartbeats 8000000 in
theorem make5_calls(k:Nat)(v:Value)(l:List (Int×Rat))(w:World)(hl:TL k w v l)(hk:k≤1000000)(hn:l.length≤1000):
  Calls Tryz.prog 87 #[v] w fun e w'=>∃v',e= .returned v'∧TO w.heap.size (l.length*(k+1)+1) w' v' (mkV l)∧Ext w w':=by
 obtain⟨K,hK⟩:∃K,K=l.length*(k+1)+1:=⟨_,rfl⟩
 have hKb:K≤1000001001:=by
  have:l.length*(k+1)≤1000*1000001:=Nat.mul_le_mul hn (by omega)
  omega
 have hsz:∀c,szQ (getV l c)≤K:=fun c=>by rw[hK];exact sz_get hl.szs c
 rw[←hK];have HL:=Lib.hid hl;have HSZ:=Lib.hid hsz;have HNL:=Lib.hid hn;obtain⟨ps,hps⟩:∃ps,ps=placesV l:=⟨_,rfl⟩;obtain⟨n,hpn⟩:∃n,n=ps.length:=⟨_,rfl⟩
 have hn2:n≤1000:=by have:=places_len l;rw[hpn,hps];omega
 have HPS:=Lib.hid hps;have HPN:=Lib.hid hpn;have eb:=emptyT;clear hK hl hsz hn hps hpn
 go_enter Tryz.func87,Tryz.ntmps87
 obtain⟨w1,hw1⟩:∃w1,w1=w.alloc (.cells #[] 95):=⟨_,rfl⟩;have e1:Ext w w1:=hw1▸(Ext.refl _).alloc _;have T1:TO w.heap.size K w1 (.slice (some ⟨w.heap.size,0,none⟩) 0 0) []:=hw1▸TO.empty _ _ _ (Nat.le_refl _);go_wp2_with fail;rw[←hw1];refine(places_calls k _ l w1 (HL.out.ext e1) (by have:=HNL.out;omega)).mono ?_;rintro e w2 ⟨pv,rfl,hI,e2⟩;rw[←HPS.out]at hI;have hI2:=hI.mono e1.size;obtain⟨pad,pcap,rfl, -⟩:=hI.opn;rw[←HPN.out]at hI2 ⊢;have T2:=T1.ext e2;have E2:=e1.trans e2;have HI2:=Lib.hid hI2;clear hI hI2 hw1 T1 e1 e2;go_wp2_with fail
 go_loopw [3,5] (fun s3 s5 wr=>∃(i p gA capo:Nat),i≤n∧s5= .int .i64 (i:Int)∧s3= .slice (some ⟨gA,0,none⟩) p capo∧p≤i∧Hid (p=(mkP l ps i).length∧TO w.heap.size K wr (.slice (some ⟨gA,0,none⟩) p capo) (mkP l ps i)∧Ext w wr∧IL w.heap.size wr (.slice pad n pcap) ps)) (fun _ s5 _=>((n:Int) - intOf s5).toNat)
 case atStart=>exact ⟨0,0,w.heap.size,0,Nat.zero_le _,rfl,rfl,Nat.le_refl _,Lib.hid ⟨by simp[mkP,nz],by simpa[mkP,nz]using T2,E2,HI2.out⟩⟩
 case round=>
  obtain⟨i,p,gA,capo,hi,rfl,rfl,hpi,hH⟩:=hrel;have ER:=hH.out.2.2.1;have HIR:=Lib.hid hH.out.2.2.2;have hwr:=ER.size
  rcases Nat.eq_or_lt_of_le hi with hin |hin
  ·subst hin
   have hlt:¬((i:Int)<(i:Int)):=by omega
   have hF:Hid (mkP l ps i=mkV l):=Lib.hid (by
    unfold mkP;rw[HPN.out,List.take_length,HPS.out]
    exact mk5_eq l)
   go_wp2;go_ret;exact⟨_,rfl,by have:=hH.out.2.1;rwa [hF.out]at this,ER⟩
  ·have hlt:(i:Int)<(n:Int):=by omega
   obtain⟨c,hc⟩:∃c,ps[i]? =some c:=⟨_,List.getElem?_eq_getElem (by rw[←HPN.out];exact hin)⟩;obtain⟨gp,rfl,hcell⟩:=HIR.out.at hc;have hcc:=hcell wr (Ext.refl _);have HCC:=Lib.hid hcell;have HC:=Lib.hid hc;obtain⟨q,hq⟩:∃q,q=getV l c:=⟨_,rfl⟩;have HQ:=Lib.hid hq;clear hc hcell hq;go_wp2_with fail;refine(get5_calls k _ c l wr (HL.out.ext ER) hk (by have:=HNL.out;omega)).mono ?_;rw[←HQ.out];rintro e w4 ⟨v4,rfl,q4,z4,e4⟩;obtain⟨b4,a4,l4,k4,a4',l4',k4',rfl,q4⟩:=q4.opn;obtain⟨w5,hw5,e5,b5,s5⟩:=alloc1 w4 #[.bool b4,.slice a4 l4 k4,.slice a4' l4' k4'] 56;have Q5:=Lib.hid (q4.ext e5);have hc0:=b5.cell 0;have hc1:=b5.cell 1;have hc2:=b5.cell 2;rw[hw5]at hc0 hc1 hc2;have E45:=e4.trans e5
   have Z4:szD q≤68719476736:=by have:=HNL.out;have h1:l.length*(5*k+1)≤1000*5000001:=Nat.mul_le_mul (by omega) (by omega);omega
   clear q4 z4;go_wp2_with fail;rw[←hw5];refine(rqsign3_calls _ q w5 Q5.out.cq).mono ?_;rintro e w6 ⟨rfl,e6⟩;obtain⟨s,hs⟩:∃s,s=q.num.sign:=⟨_,rfl⟩;rw[←hs];have HS:=Lib.hid hs;have E56:=E45.trans e6;have b6:=b5.ext e6;have Q6:=Lib.hid (Q5.out.ext e6);clear hs hw5 hc0 hc1 hc2 Q5 b5 s5 e4 e5 e6 E45
   by_cases h0:s=0
   ·have hq0:getV l c=0:=by rw[←HQ.out];exact num_sign_eq.1 (by rw[←HS.out];exact h0)
    have hm:Hid (mkP l ps (i+1)=mkP l ps i):=Lib.hid (mkP_out HC.out hq0)
    subst h0;clear hq0;go_wp2;go_roundw
    case rel=>exact ⟨i+1,p,gA,capo,by omega,by simp,rfl,by omega,Lib.hid ⟨by rw[hm.out];exact hH.out.1,by rw[hm.out];exact hH.out.2.1.ext E56,ER.trans E56,HIR.out.ext E56⟩⟩
    case measure=>simp [intOf];omega
   ·have hq0:getV l c≠0:=by rw[←HQ.out];exact fun h=>h0 (by rw[HS.out];exact num_sign_eq.2 h)
    have hm:Hid (mkP l ps (i+1)=mkP l ps i++ [(c,q)]):=Lib.hid (by rw[mkP_in HC.out hq0,HQ.out])
    have hzq:szQ q≤K:=by rw[HQ.out];exact HSZ.out c
    have hp0:=hH.out.1
    have hcc6:Hid (∀wz,Ext w6 wz→wz.cell? ⟨gp,i,none⟩=some (.int .i64 c)):=Lib.hid fun wz hz=>HCC.out wz (E56.trans hz)
    obtain⟨pso,hpso,hlso,hfro⟩:=hH.out.2.1.ps
    have hol:((tsP pso).map tmv).length=p:=by
     have:=congrArg List.length hpso
     unfold lP at this;unfold tsP
     simp at this ⊢
     omega
    obtain⟨hgA,hgr,hgw⟩:=gT_own hlso E56;have HPSO:=Lib.hid hpso;have HO:=Lib.hid hlso;have HFO:=Lib.hid hfro;have HOL:=Lib.hid hol
    have hgAl:gA<w6.heap.size:=by obtain⟨cs,h1⟩:=hgA;exact blk_lt h1
    have HGA:=Lib.hid hgA;have HGR:=Lib.hid hgr;have hs6:=E56.size;obtain⟨i1,hi1⟩:∃i1,i1=i+1:=⟨_,rfl⟩
    have hi1':(i:Int)+1=(i1:Int):=by omega
    have hi1n:i1≤n:=by omega
    have HI1:=Lib.hid hi1;clear hpso hlso hfro hol hgA hgr hq0 hp0 hi1;go_wp2_with fail
    refine wp_region_one gA 9 10 (fun v b=>ApT w.heap.size w6.heap.size p (c) (q) (tsP pso) (.slice (some ⟨gA,0,none⟩) p capo) v b) [PP.val (.slice (some ⟨gA,0,none⟩) p capo),PP.val (.slice (some ⟨gp,0,none⟩) n pcap),PP.val (.int .i64 (i:Int)),PP.val (.pointer (some ⟨gp,i,none⟩)),PP.val (.int .i64 c),PP.val (.agg #[.bool b4,.slice a4 l4 k4,.slice a4' l4' k4']),PP.frQ q,PP.frTm (c) (q),PP.oneT (c) (q),PP.any,PP.any] [(0,10,3)] [9,8,7,6,5,4,3,2,1,0] (by kernel_rfl) (by kernel_rfl) (fun f=>(by simp only[fillR,fillL,List.setIfInBounds_toArray,List.set_cons_succ,List.set_cons_zero,Nat.reduceAdd];rfl)) (by decide) (hgAl) (fun u w1 w2 h hp=>hp.ext h) (by intro p hp;simp only[List.mem_cons,List.not_mem_nil,or_false]at hp;rcases hp with rfl |rfl |rfl |rfl |rfl |rfl |rfl |rfl |rfl |rfl |rfl<;>rfl) (fun _ _=>trivial) ?_ ?_ (by decide)
    ·refine⟨?_,?_,?_,?_,?_,?_,?_,?_,?_,?_,?_,trivial⟩
     ·intro f w7 hG hp hl
      have l3:f 10= .slice (some ⟨gA,0,none⟩) p capo:=hl.1 rfl
      simp only[OpGoal];go_simp;exact⟨_,rfl,Ext.refl _,rfl⟩
     ·intro f w7 hG hp hl;simp only[OpGoal];go_simp;exact⟨_,rfl,Ext.refl _,rfl⟩
     ·intro f w7 hG hp hl;simp only[OpGoal];go_simp;exact⟨_,rfl,Ext.refl _,rfl⟩
     ·intro f w7 hG hp hl
      have q26:f 1= .slice (some ⟨gp,0,none⟩) n pcap:=tellO hp 0 1 rfl rfl
      have q27:f 2= .int .i64 (i:Int):=tellO hp 1 2 rfl rfl
      simp only[OpGoal];go_simp;exact⟨_,rfl,Ext.refl _,rfl⟩
     ·intro f w7 hG hp hl;have hE:Ext w6 w7:=hG
      have q28:f 3= .pointer (some ⟨gp,i,none⟩):=tellO hp 0 3 rfl rfl
      have hcell:=hcc6.out _ hE;simp only[OpGoal];go_simp;exact⟨_,rfl,Ext.refl _,rfl⟩
     ·intro f w7 hG hp hl;have hE:Ext w6 w7:=hG;change OpGoal _ _ _ f w7 Ext _;exact og_load (P:=Tryz.prog) _ _ w4.heap.size _ _ _ rfl rfl rfl (b6.ext hE) Tryz.underlying56 rfl (by kernel_rfl) rfl
     ·intro f w7 hG hp hl;have hE:Ext w6 w7:=hG;have hS:=hE.size
      have q30:f 5= .agg #[.bool b4,.slice a4 l4 k4,.slice a4' l4' k4']:=tellO hp 0 5 rfl rfl
      change OpGoal _ _ _ f w7 Ext _;refine oC #[f 5] Tryz.func35 rfl rfl ?_;rw[q30];refine(rqto3_calls _ q _ (Q6.out.ext hE).cq Z4).mono ?_;rintro e w' ⟨v',rfl,h1,h2⟩;exact⟨v',rfl,h2,h1.mono hS⟩
     ·intro f w7 hG hp hl
      have q29:f 4= .int .i64 c:=tellO hp 0 4 rfl rfl
      have q31:=tellO hp 1 6 rfl rfl;obtain⟨tb,ta1,tn1,tc1,ta2,tn2,tc2,tv,tq⟩:=FrQ.opn (q31);change OpGoal _ _ _ f w7 Ext _;simp only[OpGoal];go_simp;exact⟨_,rfl,Ext.refl _,⟨c,tb,ta1,tn1,tc1,ta2,tn2,tc2⟩,rfl,rfl,tq⟩
     ·intro f w7 hG hp hl;have hE:Ext w6 w7:=hG;have hS:=hE.size;have q32:=tellO hp 0 7 rfl rfl;obtain⟨tt,tv,tc,tq⟩:=q32;change OpGoal _ _ _ f w7 Ext _;exact og_buildSlice (P:=Tryz.prog) 31 95 1 4 _ [tmv tt] rfl rfl Tryz.underlying31 (by kernel_rfl) (by kernel_rfl) (by simp only[Act.eval];exact congrArg (fun z=> [(0,z)]) tv) rfl (by omega) (by omega) (by omega) (strN_tmv [tt]).size (fun w' he hb=>⟨_,tt,hS,rfl,hb,tc,tq.ext he⟩)
     ·intro f w7 hG hp hl;have hE:Ext w6 w7:=hG;have hS:=hE.size
      have q25:f 0= .slice (some ⟨gA,0,none⟩) p capo:=tellO hp 0 0 rfl rfl
      have q33:=tellO hp 1 8 rfl rfl
      have qL:f 0= .slice (some ⟨gA,0,none⟩) p capo:=tellO hp 0 0 rfl rfl
      obtain⟨gx,tt,hgx,hvx,hbx,htc,htq⟩:=tellO hp 1 8 rfl rfl;change OpGoal _ _ _ f w7 (Chg gA) _
      refine og_append (P:=Tryz.prog) _ _ 31 rfl rfl w.heap.size 95 4 64 Tryz.underlying31 (by kernel_rfl) (by kernel_rfl) (by omega) (.slice (some ⟨gA,0,none⟩) p capo) p (flatS ((tsP pso).map tmv)) qL (by have:=(HO.out.ext (E56.trans hE)).2;rw[HOL.out]at this;exact this) ⟨gx,0,none⟩ 1 1 [.int .i64 tt.c,.bool tt.b,.slice tt.a1 tt.n1 tt.c1,.slice tt.a2 tt.n2 tt.c2] hvx rfl (fun j u hj=>by rw[addr_add,Nat.zero_add,hbx.cell];unfold tmv;simpa[Value.cells]using hj) (by intro u hu;simp at hu;rcases hu with rfl |rfl |rfl |rfl<;>rfl) (by omega) (by unfold maxLen;omega) (by omega) (by have:=hE.size;omega) (fun v' w' h1 h2 h3=>⟨HGR.out _ _ h2,ap_fin (by have:=HOL.out;rw[List.length_map]at this;exact this) h1 h3 hE.size htc (htq.chg (HGR.out _ _ h2) hgAl)⟩)
     ·intro f w7 hG hp hl;have hS:w6.heap.size≤w7.heap.size:=Chg.size hG;change OpGoal _ _ _ f w7 Ext _;simp only[OpGoal];go_simp;exact⟨_,rfl,Ext.refl _,rfl⟩
    ·intro f w7 hC hF1 hmv hp;clear hp;obtain⟨tt,go,co,hv9,hls9,htc9,htq9,hgo9⟩:=id hF1;have hf9:=(hmv (by decide)).trans hv9;have hTO:=to_app HPSO.out HFO.out E56 hC HGA.out (hv9▸hF1) (by omega) (Nat.le_refl _) hzq;have HTO:=Lib.hid hTO;have hE7:=Lib.hid ((ER.trans E56).step hC hgw);have HI7:=Lib.hid (by obtain⟨cs,hcs⟩:=HGA.out;exact(HIR.out.ext E56).chgT hC hcs (by decide):IL w.heap.size w7 (.slice (some ⟨gp,0,none⟩) n pcap) ps);rw[hf9];clear hF1 hmv hv9 hls9 htc9 htq9 hgo9 hTO hf9;go_wp2;go_roundw
     case rel=>exact ⟨i1,p+1,go,co,hi1n,rfl,by simp,by have:=HI1.out;omega,Lib.hid ⟨by rw[HI1.out,hm.out,List.length_append,←hH.out.1];rfl,by rw[HI1.out,hm.out];exact HTO.out,hE7.out,HI7.out⟩⟩
     case measure=>have:=HI1.out;simp[intOf];omega
theorem FrR.chgB{B0:Nat}{w w':World}{v:Value}{b:Bool}{xs ys:List Nat}{g:Nat}{t:TypeId}{cs:Array Value}(h:FrR B0 w v b xs ys)(hc:Chg g w w')(hb:Bx t w g cs)(ht:t≠173):FrR B0 w' v b xs ys:=by
 obtain⟨s,u,h1,h2,h3⟩:=h;exact⟨s,u,h1,FrL.chgB h2 hc hb ht,FrL.chgB h3 hc hb ht⟩
def PP.frTmR{S:Nat}(c:Int)(e:RE):PP S:=⟨false,fun u w=>∃t:TmC,u=tmv t∧t.c=c∧FrR S w (ratv t) e.1 e.2.1 e.2.2,fun _ _ _ h hp=>(let ⟨t,h1,h2,h3⟩:=hp;⟨t,h1,h2,h3.ext h⟩),fun _ _ hg _ _ _ h hp=>(let ⟨t,h1,h2,h3⟩:=hp;⟨t,h1,h2,h3.chg h hg⟩)⟩
def PP.oneTR{S:Nat}(c:Int)(e:RE):PP S:=⟨false,fun u w=>∃(g:Nat) (t:TmC),S≤g∧u= .slice (some ⟨g,0,none⟩) 1 1∧Bx 95 w g (tmv t).cells∧t.c=c∧FrR S w (ratv t) e.1 e.2.1 e.2.2,fun _ _ _ h hp=>(let ⟨g,t,h0,h1,h2,h3,h4⟩:=hp;⟨g,t,h0,h1,h2.ext h,h3,h4.ext h⟩),fun _ _ hg _ _ _ h hp=>(let ⟨g,t,h0,h1,h2,h3,h4⟩:=hp;⟨g,t,h0,h1,h2.chg h (by omega),h3,h4.chg h hg⟩)⟩
def ApTR(B S n:Nat)(c:Int)(e:RE)(ts:List TmC)(hv v:Value)(b:World):Prop:=
 ∃(t:TmC) (g cap:Nat),v= .slice (some ⟨g,0,none⟩) (n+1) cap∧LS 95 4 B b v ((ts++ [t]).map tmv)∧t.c=c∧FrR S b (ratv t) e.1 e.2.1 e.2.2∧(hv.ownBlock=some g∨S≤g)
theorem ApTR.ext{B S n:Nat}{c:Int}{e:RE}{ts:List TmC}{hv v:Value}{a b:World}(h:ApTR B S n c e ts hv v a)(he:Ext a b):ApTR B S n c e ts hv v b:=by
 obtain⟨t,g,cap,h1,h2,h3,h4,h5⟩:=h;exact⟨t,g,cap,h1,h2.ext he,h3,h4.ext he,h5⟩
theorem ap_finR{B S S0 n:Nat}{c:Int}{e:RE}{ts:List TmC}{t:TmC}{hv v':Value}{w':World}(hn:ts.length=n)(h1:w'.ownsRow B 95 4 v' (n+1) (flatS (ts.map tmv)++ [.int .i64 t.c,.bool t.b,.slice t.a1 t.n1 t.c1,.slice t.a2 t.n2 t.c2]))(h3:∀g,v'.ownBlock=some g→hv.ownBlock=some g∨S0≤g)(hS:S≤S0)(ht:t.c=c)(hq:FrR S w' (ratv t) e.1 e.2.1 e.2.2):ApTR B S n c e ts hv v' w':=by
 have hLS:LS 95 4 B w' v' ((ts++ [t]).map tmv):=by
  refine⟨strN_tmv _,?_⟩
  have e:flatS ((ts++ [t]).map tmv)=flatS (ts.map tmv)++ [.int .i64 t.c,.bool t.b,.slice t.a1 t.n1 t.c1,.slice t.a2 t.n2 t.c2]:=by
   rw[List.map_append,flatS_append]
   rfl
  rw[e,List.length_map,List.length_append,hn];exact h1
 obtain⟨g,cap,rest,e1, -⟩:=hLS.hold (by rw[List.length_map,List.length_append];show 0<_+1;omega);rw[List.length_map,List.length_append,hn]at e1;refine⟨t,g,cap,e1,hLS,ht,hq,?_⟩
 rcases h3 g (by rw[e1];rfl)with h |h
 ·exact .inl h
 ·exact .inr (by omega)
def CpJ(B:Nat)(l:List TE)(i:Nat)(w:World)(v:Value)(ts:List TmC):Prop:=ts.length=i∧LS 95 4 B w v (ts.map tmv)∧∀(j:Nat) (t:TmC) (e:TE),ts[j]? =some t→l[j]? =some e→t.c=e.1∧FrR B w (ratv t) e.2.1 e.2.2.1 e.2.2.2
theorem CpJ.ext{B i:Nat}{l:List TE}{w w':World}{v:Value}{ts:List TmC}(h:CpJ B l i w v ts)(he:Ext w w'):CpJ B l i w' v ts:=
 ⟨h.1,h.2.1.ext he,fun j t e h1 h2=>⟨(h.2.2 j t e h1 h2).1,(h.2.2 j t e h1 h2).2.ext he⟩⟩
theorem CpJ.app{B S n i gA:Nat}{l:List TE}{c:Int}{x:RE}{wr w6 w7:World}{hv v':Value}{ts:List TmC}(h:CpJ B l i wr hv ts)(he:Ext wr w6)(hC:Chg gA w6 w7)(hgA:∃cs,Bx 95 w6 gA cs)(hA:ApTR B S n c x ts hv v' w7)(hB:B≤S)(hx:l[i]? =some (c,x)):∃ts',CpJ B l (i+1) w7 v' ts':=by
 obtain⟨t,g,cap,h1,h2,h3,h4,h5⟩:=hA;obtain⟨cs,hb⟩:=hgA;refine⟨ts++ [t],by rw[List.length_append,h.1];rfl,h2,fun j u e hu hj=> ?_⟩
 rcases Nat.lt_or_ge j ts.length with hjl |hjl
 ·rw[List.getElem?_append_left hjl]at hu;obtain⟨k1,k2⟩:=h.2.2 j u e hu hj;exact⟨k1,(k2.ext he).chgB hC hb (by decide)⟩
 ·rw[List.getElem?_append_right hjl]at hu
  have hjz:j - ts.length=0:=by
   rcases Nat.eq_zero_or_pos (j - ts.length)with hz |hz
   ·exact hz
   ·rw[List.getElem?_eq_none (by simp;omega)]at hu
    cases hu
  rw[hjz]at hu
  have hji:j=i:=by have:=h.1;omega
  rw[hji,hx]at hj;simp only[List.getElem?_cons_zero,Option.some.injEq]at hu hj;subst hu hj;exact⟨h3,h4.mono hB⟩
theorem CpJ.tle{B:Nat}{l:List TE}{w:World}{v:Value}{ts:List TmC}(h:CpJ B l l.length w v ts)(hd:∀e∈l,Dig W e.2.2.1∧Dig W e.2.2.2∧e.2.2.1.length+e.2.2.2.length≤9223372036854775807):TLE w v l:=by
 refine OL.sl (t:=95) (B:=B) ⟨_,h.2.1,by rw[List.length_map];exact h.1,fun i u e hu he=> ?_⟩ (by omega);rw[List.getElem?_map]at hu
 cases ht:ts[i]? with
 |none=>rw [ht]at hu;cases hu
 |some t=>
  rw[ht]at hu;simp only[Option.map_some,Option.some.injEq]at hu;subst hu;obtain⟨k1,k2⟩:=h.2.2 i t e ht he;exact⟨_,_,_,_,_,_,_,by unfold tmv;rw[k1],k2.raw,hd e (List.mem_of_getElem? he)⟩
def TLO(B:Nat)(w:World)(v:Value)(l:List TE):Prop:=(∃ts,CpJ B l l.length w v ts)∧∀e∈l,Dig W e.2.2.1∧Dig W e.2.2.2∧e.2.2.1.length+e.2.2.2.length≤9223372036854775807
theorem TLO.tle{B:Nat}{w:World}{v:Value}{l:List TE}(h:TLO B w v l):TLE w v l:=by
 obtain⟨⟨ts,hc⟩,hd⟩:=h;exact CpJ.tle hc hd
theorem TLO.ext{B:Nat}{w w':World}{v:Value}{l:List TE}(h:TLO B w v l)(he:Ext w w'):TLO B w' v l:=by
 obtain⟨⟨ts,hc⟩,hd⟩:=h;exact⟨⟨ts,hc.ext he⟩,hd⟩
theorem TLO.chgB{B g:Nat}{w w':World}{v:Value}{l:List TE}{t:TypeId}{cs:Array Value}(h:TLO B w v l)(hc:Chg g w w')(hb:Bx t w g cs)(ht:t≠173)(ht2:t≠95):TLO B w' v l:=by
 obtain⟨⟨ts,h1,h2,h3⟩,hd⟩:=h;exact⟨⟨ts,h1,h2.chgT hc hb ht2,fun j t e a b=>⟨(h3 j t e a b).1,(h3 j t e a b).2.chgB hc hb ht⟩⟩,hd⟩
set_option maxHeartbeats 8000000 in
theorem copy5o_calls(v:Value)(l:List TE)(w:World)(hv:TLE w v l)(hn:l.length≤1000)(hl:∀e∈l,wordsE e.2≤6):
  Calls Tryz.prog 77 #[v] w fun e w'=>∃v',e= .returned v'∧TLO w.heap.size w' v' l∧Ext w w':=by
 obtain⟨ad,n,cap,hnl,rfl,hn1,hat⟩:=hv.at
 have hd:∀e∈l,Dig W e.2.2.1∧Dig W e.2.2.2∧e.2.2.1.length+e.2.2.2.length≤9223372036854775807:=by
  intro e he;obtain⟨i,hi,rfl⟩:=List.getElem_of_mem he;obtain⟨g,off, -,b,a1,n1,c1,a2,n2,c2, -, -, -,hR⟩:=hat i _ (List.getElem?_eq_getElem hi);exact hR.2
 rw[←hnl]at hn;have HN:=Lib.hid hnl;have HAT:=Lib.hid hat;have HD:=Lib.hid hd;have HW:=Lib.hid hl;have eb:=emptyT;clear hnl hat hv hd hl
 go_enter Tryz.func77,Tryz.ntmps77
 go_wp2_with fail
 go_loopw [3,4] (fun s3 s4 wr=>∃(i gA capo:Nat),i≤n∧s4= .int .i64 (i:Int)∧s3= .slice (some ⟨gA,0,none⟩) i capo∧Hid (∃ts,CpJ w.heap.size l i wr (.slice (some ⟨gA,0,none⟩) i capo) ts)∧Ext w wr) (fun _ s4 _=>((n:Int) - intOf s4).toNat)
 case atStart=>exact ⟨0,w.heap.size,0,Nat.zero_le _,rfl,rfl,Lib.hid ⟨[],rfl,LS.empty _ _ _ _ (Nat.le_refl _),fun j t e h=>by simp at h⟩,(Ext.refl _).alloc _⟩
 case round=>
  obtain⟨i,gA,capo,hi,rfl,rfl,hH,hE0⟩:=hrel;have hwr:=hE0.size
  rcases Nat.eq_or_lt_of_le hi with hin |hin
  ·subst hin
   have hlt:¬((i:Int)<(i:Int)):=by omega
   have hT:TLO w.heap.size wr (.slice (some ⟨gA,0,none⟩) i capo) l:=by
    obtain⟨ts,hc⟩:=hH.out;exact⟨⟨ts,by rw[←HN.out];exact hc⟩,HD.out⟩
   have HT:=Lib.hid hT;clear hT;go_wp2;go_ret;exact⟨_,rfl,HT.out,hE0⟩
  ·have hlt:(i:Int)<(n:Int):=by omega
   obtain⟨⟨xc,xb,xs,xt⟩,hx⟩:∃x,l[i]? =some x:=⟨_,List.getElem?_eq_getElem (by rw[←HN.out];exact hin)⟩;obtain⟨g,off,rfl,b,a1,n1,c1,a2,n2,c2, -, -,hcell,hR⟩:=HAT.out i _ hx
   simp only at hcell hR
   have HC3:=Lib.hid (cells3 hcell)
   have HC0:Hid (∀wz,Ext w wz→wz.cell? ⟨g,off+i*4,none⟩=some (.int .i64 xc)):=Lib.hid fun wz hz=>hcell wz hz 0 _ rfl
   have HR:=Lib.hid hR;have HX:=Lib.hid hx;have hw6:xs.length+xt.length≤6:=HW.out _ (List.mem_of_getElem? hx);obtain⟨tso,hcp⟩:=hH.out;have hlso:=hcp.2.1
   have hol:(tso.map tmv).length=i:=by rw[List.length_map];exact hcp.1
   obtain⟨hgA,hgr,hgw⟩:=gT_own hlso (Ext.refl wr)
   have hgAl:gA<wr.heap.size:=by obtain⟨cs,h1⟩:=hgA;exact blk_lt h1
   have HO:=Lib.hid hlso;have HOL:=Lib.hid hol;have HGA:=Lib.hid hgA;have HGR:=Lib.hid hgr;have HCP:=Lib.hid hcp;clear hcell hR hx hlso hol hgA hgr hcp hH;go_wp2_with fail
   refine wp_region_one gA 14 15 (fun v b=>ApTR w.heap.size wr.heap.size i (xc) (xb,xs,xt) tso (.slice (some ⟨gA,0,none⟩) i capo) v b) [PP.val (.slice (some ⟨gA,0,none⟩) i capo),PP.val (.slice (some ⟨g,off,none⟩) n cap),PP.val (.int .i64 (i:Int)),PP.val (.pointer (some ⟨g,off+i*4,none⟩)),PP.val (.pointer (some ⟨g,off+i*4,none⟩)),PP.val (.int .i64 xc),PP.val (.slice (some ⟨g,off,none⟩) n cap),PP.val (.int .i64 (i:Int)),PP.val (.pointer (some ⟨g,off+i*4,none⟩)),PP.val (.pointer (some ⟨g,off+i*4+1,none⟩)),PP.val (.agg #[.bool b,.slice a1 n1 c1,.slice a2 n2 c2]),PP.frR xb xs xt,PP.frTmR (xc) (xb,xs,xt),PP.oneTR (xc) (xb,xs,xt),PP.any,PP.any] [(0,15,3)] [14,13,12,11,10,9,8,7,6,5,4,3,2,1,0] (by kernel_rfl) (by kernel_rfl) (fun f=>(by simp only[fillR,fillL,List.setIfInBounds_toArray,List.set_cons_succ,List.set_cons_zero,Nat.reduceAdd];rfl)) (by decide) (hgAl) (fun u w1 w2 h hp=>hp.ext h) (by intro p hp;simp only[List.mem_cons,List.not_mem_nil,or_false]at hp;rcases hp with rfl |rfl |rfl |rfl |rfl |rfl |rfl |rfl |rfl |rfl |rfl |rfl |rfl |rfl |rfl |rfl<;>rfl) (fun _ _=>trivial) ?_ ?_ (by decide)
   ·refine⟨?_,?_,?_,?_,?_,?_,?_,?_,?_,?_,?_,?_,?_,?_,?_,?_,trivial⟩
    ·intro f w7 hG hp hl
     have l3:f 15= .slice (some ⟨gA,0,none⟩) i capo:=hl.1 rfl
     simp only[OpGoal];go_simp;exact⟨_,rfl,Ext.refl _,rfl⟩
    ·intro f w7 hG hp hl;simp only[OpGoal];go_simp;exact⟨_,rfl,Ext.refl _,rfl⟩
    ·intro f w7 hG hp hl;simp only[OpGoal];go_simp;exact⟨_,rfl,Ext.refl _,rfl⟩
    ·intro f w7 hG hp hl
     have q13:f 1= .slice (some ⟨g,off,none⟩) n cap:=tellO hp 0 1 rfl rfl
     have q14:f 2= .int .i64 (i:Int):=tellO hp 1 2 rfl rfl
     simp only[OpGoal];go_simp;exact⟨_,rfl,Ext.refl _,rfl⟩
    ·intro f w7 hG hp hl
     have q15:f 3= .pointer (some ⟨g,off+i*4,none⟩):=tellO hp 0 3 rfl rfl
     simp only[OpGoal];go_simp;exact⟨_,rfl,Ext.refl _,rfl⟩
    ·intro f w7 hG hp hl;have hE:Ext wr w7:=hG
     have q16:f 4= .pointer (some ⟨g,off+i*4,none⟩):=tellO hp 0 4 rfl rfl
     have hcell:=HC0.out _ (hE0.trans hE);simp only[OpGoal];go_simp;exact⟨_,rfl,Ext.refl _,rfl⟩
    ·intro f w7 hG hp hl;simp only[OpGoal];go_simp;exact⟨_,rfl,Ext.refl _,rfl⟩
    ·intro f w7 hG hp hl;simp only[OpGoal];go_simp;exact⟨_,rfl,Ext.refl _,rfl⟩
    ·intro f w7 hG hp hl
     have q18:f 6= .slice (some ⟨g,off,none⟩) n cap:=tellO hp 0 6 rfl rfl
     have q19:f 7= .int .i64 (i:Int):=tellO hp 1 7 rfl rfl
     simp only[OpGoal];go_simp;exact⟨_,rfl,Ext.refl _,rfl⟩
    ·intro f w7 hG hp hl
     have q20:f 8= .pointer (some ⟨g,off+i*4,none⟩):=tellO hp 0 8 rfl rfl
     simp only[OpGoal];go_simp;exact⟨_,rfl,Ext.refl _,rfl⟩
    ·intro f w7 hG hp hl;have hE:Ext wr w7:=hG
     have q21:f 9= .pointer (some ⟨g,off+i*4+1,none⟩):=tellO hp 0 9 rfl rfl
     change OpGoal _ _ _ f w7 Ext _;exact og_loadAt (P:=Tryz.prog) _ _ g (off+i*4+1) _ _ rfl rfl q21 (fun j v h=>HC3.out _ (hE0.trans hE) j v h) Tryz.underlying41 rfl (by kernel_rfl) rfl
    ·intro f w7 hG hp hl;have hE:Ext wr w7:=hG;have hS:=hE.size
     have q22:f 10= .agg #[.bool b,.slice a1 n1 c1,.slice a2 n2 c2]:=tellO hp 0 10 rfl rfl
     change OpGoal _ _ _ f w7 Ext _;refine oC #[f 10] Tryz.func76 rfl rfl ?_;rw[q22];refine(rqcopy3_calls _ xb xs xt _ (HR.out.1.ext (hE0.trans hE)) (by omega) (by omega)).mono ?_;rintro e w' ⟨v',rfl,h1,h2⟩;exact⟨v',rfl,h2,h1.mono hS⟩
    ·intro f w7 hG hp hl
     have q17:f 5= .int .i64 xc:=tellO hp 0 5 rfl rfl
     have q23:=tellO hp 1 11 rfl rfl;obtain⟨ta1,tn1,tc1,ta2,tn2,tc2,tv,tq⟩:=FrR.opn q23;change OpGoal _ _ _ f w7 Ext _;simp only[OpGoal];go_simp;exact⟨_,rfl,Ext.refl _,⟨xc,xb,ta1,tn1,tc1,ta2,tn2,tc2⟩,rfl,rfl,tq⟩
    ·intro f w7 hG hp hl;have hE:Ext wr w7:=hG;have hS:=hE.size;have q24:=tellO hp 0 12 rfl rfl;obtain⟨tt,tv,tc,tq⟩:=q24;change OpGoal _ _ _ f w7 Ext _;exact og_buildSlice (P:=Tryz.prog) 31 95 1 4 _ [tmv tt] rfl rfl Tryz.underlying31 (by kernel_rfl) (by kernel_rfl) (by simp only[Act.eval];exact congrArg (fun z=> [(0,z)]) tv) rfl (by omega) (by omega) (by omega) (strN_tmv [tt]).size (fun w' he hb=>⟨_,tt,hS,rfl,hb,tc,tq.ext he⟩)
    ·intro f w7 hG hp hl;have hE:Ext wr w7:=hG;have hS:=hE.size
     have q12:f 0= .slice (some ⟨gA,0,none⟩) i capo:=tellO hp 0 0 rfl rfl
     have q25:=tellO hp 1 13 rfl rfl
     have qL:f 0= .slice (some ⟨gA,0,none⟩) i capo:=tellO hp 0 0 rfl rfl
     obtain⟨gx,tt,hgx,hvx,hbx,htc,htq⟩:=tellO hp 1 13 rfl rfl;change OpGoal _ _ _ f w7 (Chg gA) _
     refine og_append (P:=Tryz.prog) _ _ 31 rfl rfl w.heap.size 95 4 64 Tryz.underlying31 (by kernel_rfl) (by kernel_rfl) (by omega) (.slice (some ⟨gA,0,none⟩) i capo) i (flatS (tso.map tmv)) qL (by have:=(HO.out.ext ((Ext.refl wr).trans hE)).2;rw[HOL.out]at this;exact this) ⟨gx,0,none⟩ 1 1 [.int .i64 tt.c,.bool tt.b,.slice tt.a1 tt.n1 tt.c1,.slice tt.a2 tt.n2 tt.c2] hvx rfl (fun j u hj=>by rw[addr_add,Nat.zero_add,hbx.cell];unfold tmv;simpa[Value.cells]using hj) (by intro u hu;simp at hu;rcases hu with rfl |rfl |rfl |rfl<;>rfl) (by omega) (by unfold maxLen;omega) (by omega) (by have:=hE.size;omega) (fun v' w' h1 h2 h3=>⟨HGR.out _ _ h2,ap_finR (by have:=HOL.out;rw[List.length_map]at this;exact this) h1 h3 hE.size htc (htq.chg (HGR.out _ _ h2) hgAl)⟩)
    ·intro f w7 hG hp hl;have hS:wr.heap.size≤w7.heap.size:=Chg.size hG;change OpGoal _ _ _ f w7 Ext _;simp only[OpGoal];go_simp;exact⟨_,rfl,Ext.refl _,rfl⟩
   ·intro f w7 hC hF1 hmv hp;clear hp;obtain⟨tt,go,co,hv9,hls9,htc9,htq9,hgo9⟩:=id hF1;have hf9:=(hmv (by decide)).trans hv9;have hAp:=HCP.out.app (Ext.refl wr) hC HGA.out (hv9▸hF1) hwr HX.out;have HAP:=Lib.hid hAp;have hE7:=Lib.hid (hE0.step hC hgw);rw[hf9];clear hF1 hmv hv9 hls9 htc9 htq9 hgo9 hAp hf9;go_wp2;go_roundw
    case rel=>exact ⟨i+1,go,co,by omega,by simp,rfl,HAP,hE7.out⟩
    case measure=>simp [intOf];omega
end Go.Proofs.YtbmnlaepfckmkaaGreat
