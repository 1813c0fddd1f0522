/-
 The law ConsCombines.
-/
import Derived.Test.YtokfaggcojokgaaGreatCnsZ
import Derived.Test.YtokfaggcojokgaaGreatCnjZ
import Derived.Test.YtokfaggcojokgaaGreatCmaZ
import Derived.Test.YtokfaggcojokgaaGreatCnhZ
import Derived.Test.YtokfaggcojokgaaGreatComZ
import Derived.Deep.AppendSrc
import Derived.Test.YtokfaggcojokgaaGreatCnfZ
import Derived.Test.YtokfaggcojokgaaGreatVfcZ
import Derived.Test.YtokfaggcojokgaaGreatCneZ
import Derived.Test.YtokfaggcojokgaaGreatCngZ
import Derived.Test.YtokfaggcojokgaaGreatCnkZ
import Derived.Test.YtokfaggcojokgaaGreatCniZ
import Derived.Test.YtokfaggcojokgaaGreatSsbZ
import Derived.Test.YtokfaggcojokgaaGreatCnaZ
namespace Go.Proofs.YtokfaggcojokgaaGreat
set_option maxRecDepth 100000
set_option maxHeartbeats 1000000
open Go.RowKit
set_option linter.unusedVariables false
set_option linter.unusedSimpArgs false
theorem cle_new{g N:Nat}{w:World}(vs:List Value)(cs:List CE)(h5:StrN 5 vs)(hb:Bx 36 w g (flatS vs).toArray)(hn:N=vs.length)(hq:N=cs.length)(hN:N≤9223372036854775807)(hR:∀(i:Nat) (u:Value) (y:CE),vs[i]? =some u→cs[i]? =some y→CnE w u y):CLE w (.slice (some ⟨g,0,Option.none⟩) N N) cs:=by
 have:=LS.of_hold (e:=36) (n:=5) (B:=0) (w:=w) (vs:=vs) (g:=g) (cap:=N) (rest:=[]) h5 (Nat.zero_le _) (by omega) hN (by rw[hn];simp) (by rw[List.append_nil];exact hb)
 rw[←hn]at this;exact OL.sl (R:=fun w u y=>CnE w u y) ⟨vs,this,by omega,hR⟩ (by omega)
theorem cle_new1{w:World}{g:Nat}{a:CE}{ax:Option Addr}{nx px:Nat}{bbx:Bool}{a1x:Option Addr}{n1x c1x:Nat}{a2x:Option Addr}{n2x c2x:Nat}(hb:Bx 36 w g #[.int .i64 a.1,.slice ax nx px,.bool bbx,.slice a1x n1x c1x,.slice a2x n2x c2x])(h0:CnE w (.agg #[.int .i64 a.1,.slice ax nx px,.bool bbx,.slice a1x n1x c1x,.slice a2x n2x c2x]) a):CLE w (.slice (some ⟨g,0,none⟩) 1 1) [a]:=by
 refine cle_new [.agg #[.int .i64 a.1,.slice ax nx px,.bool bbx,.slice a1x n1x c1x,.slice a2x n2x c2x]] _ ?_ hb rfl rfl (by omega) ?_
 ·intro v hv;simp only[List.mem_cons,List.not_mem_nil,or_false]at hv
  rcases hv with rfl
  ·exact⟨_,rfl,rfl,all5 rfl rfl rfl rfl rfl⟩
 ·intro i u y hu hy
  match i,hu,hy with
  |0,hu,hy=>
   cases hu
   cases hy
   exact h0
  |i+1,hu,hy=>simp at hu
theorem great_in{l:List CE}{c:CE}(h:greatC l=false)(hc:c∈l):(c.2.1.length≤30∧(ratC c).2.1.length≤30)∧((∀e∈c.2.1,wordsE e.2≤6)∧wordsE c.2.2≤6)∧∀{w:World} {v:Value},CnE w v c→CnR 6 w v (ratC c):=by
 have lim:(100000:Nat)≤LIM:=by rw[LIM_eq];omega
 obtain⟨-,h2⟩:=greatC_not h;obtain⟨h3,h4,h5⟩:=h2 c hc;refine⟨⟨h3,by unfold ratC ratT;rw[List.length_map];exact h3⟩,⟨h4,h5⟩,fun hE=>hE.cnR 6 (by omega) (by omega) h4 h5⟩
def ZChg(S:Nat)(T:List (TypeId×Array Value))(w1 w2:World):Prop:=∃g t old cs,S≤g∧(t,old)∈T∧Bx t w1 g old∧Bx t w2 g cs∧Chg g w1 w2
structure PZ (S:Nat) (T:List (TypeId×Array Value)) where
 p:Value→World→Prop
 m:∀v w1 w2,Ext w1 w2→p v w1→p v w2
 m3:∀v w1 w2,ZChg S T w1 w2→p v w1→p v w2
def PZ.val{S:Nat}{T:List (TypeId×Array Value)}(v:Value):PZ S T:=⟨fun u _=>u=v,fun _ _ _ _ h=>h,fun _ _ _ _ h=>h⟩
def PZ.any{S:Nat}{T:List (TypeId×Array Value)}:PZ S T:=⟨fun _ _=>True,fun _ _ _ _ h=>h,fun _ _ _ _ h=>h⟩
def TZ(als:List Al):List (TypeId×Array Value):=als.map fun x=>(x.t,x.z)
structure Sz (S:Nat) (T:List (TypeId×Array Value)) where
 s:Nat
 x:Al
 F:PZ S T
def szAt{S:Nat}{T:List (TypeId×Array Value)}:List (Sz S T)→Nat→Option (Sz S T)
 | [],_=>none
 |x::l,k=>if k=x.s then some x else szAt l k
theorem szAt_mem{S:Nat}{T:List (TypeId×Array Value)}{l:List (Sz S T)}{k:Nat}{x:Sz S T}(h:szAt l k=some x):x∈l∧x.s=k:=by
 induction l with
 |nil=>cases h
 |cons y l ih=>
  simp only[szAt]at h
  split at h
  ·cases h;exact⟨List.mem_cons_self ..,by omega⟩
  ·exact⟨List.mem_cons_of_mem _ (ih h).1,(ih h).2⟩
structure JZ {S:Nat} {T:List (TypeId×Array Value)} (als:List Al) (sas:List (Sz S T)) (listed:Nat→Bool) (f:Nat→Value) (w:World):Prop where
 made:∀x∈als,listed x.a=true→∃g cs,f x.a= .pointer (some ⟨g,0,none⟩)∧S≤g∧Bx x.t w g cs∧cs.size=x.n∧((∀y∈sas,y.x.a=x.a→listed y.s=false)→cs=x.z)
 apart:∀x∈als,∀y∈als,x.a≠y.a→listed x.a=true→listed y.a=true→f x.a≠f y.a
 put:∀y∈sas,listed y.s=true→listed y.x.a=true∧∃g cs,f y.x.a= .pointer (some ⟨g,0,none⟩)∧Bx y.x.t w g cs∧y.F.p (.agg cs) w
def postZ{S:Nat}{T:List (TypeId×Array Value)}(als:List Al)(sas:List (Sz S T))(L:List (PZ S T))(j:Nat)(v:Value)(w:World):Prop:=alAt als j=none→szAt sas j=none→(L.getD j PZ.any).p v w
def OweZ{S:Nat}{T:List (TypeId×Array Value)}(P:Program)(fr:(Nat→Value)→Array Value)(df:List Deferred)(w:World)(als:List Al)(sas:List (Sz S T))(L:List (PZ S T))(k:Nat)(o:Oper):Prop:=
 ∀f w1,Ext w w1→PostsOf (postZ als sas L) f w1 o.after.toList→
  match alAt als k with
  |some x=>OpGoal P o ⟨fr f,df⟩ f w1 (fun a b=>b=a.alloc (.cells x.z x.t)) (fun v _=>v= .pointer (some ⟨w1.heap.size,0,none⟩))
  |none=>match szAt sas k with
   |some y=>∀g,f y.x.a= .pointer (some ⟨g,0,none⟩)→S≤g→Bx y.x.t w1 g y.x.z→
     OpGoal P o ⟨fr f,df⟩ f w1 (Chg g) (fun _ w2=>∃cs,Bx y.x.t w2 g cs∧cs.size=y.x.n∧y.F.p (.agg cs) w2)
   |none=>OpGoal P o ⟨fr f,df⟩ f w1 Ext (L.getD k PZ.any).p
def OwesZ{S:Nat}{T:List (TypeId×Array Value)}(P:Program)(fr:(Nat→Value)→Array Value)(df:List Deferred)(w:World)(als:List Al)(sas:List (Sz S T))(L:List (PZ S T)):List Oper→Nat→Prop
 | [],_=>True
 |o::l,k=>OweZ P fr df w als sas L k o∧OwesZ P fr df w als sas L l (k+1)
theorem owesZ_at{S:Nat}{T:List (TypeId×Array Value)}{P:Program}{fr:(Nat→Value)→Array Value}{df:List Deferred}{w:World}{als:List Al}{sas:List (Sz S T)}{L:List (PZ S T)}:
  ∀(l:List Oper) (k:Nat),OwesZ P fr df w als sas L l k→∀i o,l[i]? =some o→OweZ P fr df w als sas L (k+i) o
 | [],_,_,i,o,h=>by simp at h
 |x::l,k,hs,i,o,h=>by
  cases i with
  |zero=>
   simp only[List.getElem?_cons_zero,Option.some.injEq]at h;subst h;exact hs.1
  |succ i=>
   have:=owesZ_at l (k+1) hs.2 i o (by simpa using h)
   rwa [show k+1+i=k+(i+1)by omega]at this
theorem tellZ{S:Nat}{T:List (TypeId×Array Value)}{w1:World}{als:List Al}{sas:List (Sz S T)}{L:List (PZ S T)}{f:Nat→Value}{l:List Edge}(hp:PostsOf (postZ als sas L) f w1 l)(n j:Nat)
  (h:(match l[n]? with |some e=>Region.binds .any e&&e.on==j |none=>false)=true) (ha:alAt als j=none) (hs:szAt sas j=none):(L.getD j PZ.any).p (f j) w1:=
 postsOf_nth l n j h hp ha hs
theorem endZ{S:Nat}{T:List (TypeId×Array Value)}{w1:World}{als:List Al}{sas:List (Sz S T)}{L:List (PZ S T)}{f:Nat→Value}{n:Nat}(hp:AllPosts (postZ als sas L) f w1 n 0)(j:Nat)(hk:j<n)(ha:alAt als j=none)(hs:szAt sas j=none):(L.getD j PZ.any).p (f j) w1:=
 allPosts_nth n 0 j (Nat.zero_le _) (by omega) hp ha hs
theorem wp_region_alz{P:Program}{id:Nat}{l:List Oper}{Q:Exit→Act→World→Prop}{tmps:Array Value}{df:List Deferred}{w:World}{fr:(Nat→Value)→Array Value}
  (als:List Al) (sas:List (Sz w.heap.size (TZ als))) (L:List (PZ w.heap.size (TZ als)))
  (hm:P.follows .mixedOrders=true) (hok:(regOk l.toArray tmps.size&&sas.all fun y=>ancOk l.toArray [y.s] [y.x.a]&&y.s !=y.x.a)=true)
  (hfr:∀f,fillR l.toArray tmps f=fr f)
  (hal:∀x∈als,alAt als x.a=some x∧szAt sas x.a=none∧x.z.size=x.n)
  (hsa:∀y∈sas,szAt sas y.s=some y∧alAt als y.s=none∧y.x∈als) (hsa2:∀y∈sas,∀z∈sas,y.s≠z.s→y.x.a≠z.x.a)
  (hstep:OwesZ P fr df w als sas L l 0)
  (hend:∀f w1,Ext w w1→AllPosts (postZ als sas L) f w1 l.length 0→
   (∀x∈als,x.a<l.length→∃g cs,f x.a= .pointer (some ⟨g,0,none⟩)∧w.heap.size≤g∧Bx x.t w1 g cs∧cs.size=x.n∧∀y∈sas,y.s<l.length→y.x.a=x.a→y.x.t=x.t→y.F.p (.agg cs) w1)→Q .normal ⟨fr f,df⟩ w1):
  (Code.region id l.toArray true).wp P Q ⟨tmps,df⟩ w:=by
 simp only[Bool.and_eq_true]at hok;obtain⟨hok1,hok2⟩:=hok
 let R:Nat→World→World→Prop:=fun i w1 w2=>if (alAt als i).isSome=true∨(szAt sas i).isSome=false then Ext w1 w2 else ZChg w.heap.size (TZ als) w1 w2
 have zchgExt:∀{w1 w2:World},Ext w w1→ZChg w.heap.size (TZ als) w1 w2→Ext w w2:=by
  rintro w1 w2 h ⟨g,t,cs,cs',hg,_,_,_,hch⟩;exact h.step hch hg
 refine wp_region_posts (D:=JZ als sas) (G:=Ext) (G0:=fun _ _ _=>True) (R:=R) (post:=postZ als sas L) hm hok1 ?_ (Ext.refl w).drew (fun _=>trivial) ?_ (fun _ _ _ _ _ _ _=>trivial) ?_ ?_ ?_
 ·intro f;exact⟨fun x hx h=>(by cases h),fun x hx y hy hne h=>(by cases h),fun y hy h=>(by cases h)⟩
 ·intro i w1 w2 hG hR
  by_cases hc:(alAt als i).isSome=true∨(szAt sas i).isSome=false
  ·simp only[R,hc,if_true]at hR;exact hG.trans hR
  ·simp only[R,hc,if_false]at hR;exact zchgExt hG hR
 ·intro i j v w1 w2 hij hG hR hp ha hs
  by_cases hc:(alAt als j).isSome=true∨(szAt sas j).isSome=false
  ·simp only[R,hc,if_true]at hR;exact(L.getD i PZ.any).m _ _ _ hR (hp ha hs)
  ·simp only[R,hc,if_false]at hR;exact(L.getD i PZ.any).m3 _ _ _ hR (hp ha hs)
 ·intro i o ho listed f w1 hil hbef hD hG _ hp _;have hO:=owesZ_at l 0 hstep i o (by simpa using ho);rw[Nat.zero_add]at hO;rw[hfr]
  have unl:∀j,(if j=i then true else listed j)=false→listed j=false:=fun j h=>by
   by_cases hj:j=i
   ·rw[if_pos hj]at h;cases h
   ·rwa [if_neg hj]at h
  have hg:=hO f w1 hG (postsOf_of _ fun e he hb=>hp e (Array.mem_toList_iff.1 he) hb);clear hO
  cases ha:alAt als i with
  |some x=>
   simp only[ha]at hg;have hxm:=(alAt_mem ha).1;have hxa:=(alAt_mem ha).2;have hxl:=hal x hxm;refine OpGoal.mono2 ?_ (fun h=>by cases h) hg;rintro v w' rfl rfl;have hext:Ext w1 (w1.alloc (.cells x.z x.t)):=(Ext.refl w1).alloc _;refine⟨by simp only[R,ha,Option.isSome_some,true_or,if_true];exact hext,fun h=>by simp[ha]at h,?_,?_,?_⟩
   ·intro x' hx' hl'
    by_cases hi:x'.a=i
    ·have:x'=x:=by
      have h1:=(hal x' hx').1;rw[hi,ha]at h1;exact(Option.some.inj h1).symm
     subst this;exact⟨w1.heap.size,x'.z,by simp[hi],hG.size,Bx.new w1 x'.t x'.z,hxl.2.2,fun _=>rfl⟩
    ·simp only[hi,if_false]at hl' ⊢;obtain⟨g,cs,h1,h2,h3,h4,h5⟩:=hD.made x' hx' hl';exact⟨g,cs,h1,h2,h3.ext hext,h4,fun hn=>h5 fun y hy hyx=>unl _ (hn y hy hyx)⟩
   ·intro x' hx' y' hy' hne hlx hly
    have old:∀z∈als,z.a≠i→listed z.a=true→f z.a≠ .pointer (some ⟨w1.heap.size,0,none⟩):=by
     intro z hz hzi hlz h;obtain⟨g,cs,h1,h2,h3,h4⟩:=hD.made z hz hlz;rw[h1]at h
     have:=h3.lt
     simp only[Value.pointer.injEq,Option.some.injEq,Addr.mk.injEq,and_true]at h
     omega
    by_cases h1:x'.a=i
    ·have h2:y'.a≠i:=by omega
     simp only[h1,h2,if_true,if_false]at hlx hly ⊢
     exact fun h=>old y' hy' h2 hly h.symm
    ·by_cases h2:y'.a=i
     ·simp only[h1,h2,if_true,if_false]at hlx hly ⊢;exact old x' hx' h1 hlx
     ·simp only[h1,h2,if_false]at hlx hly ⊢;exact hD.apart x' hx' y' hy' hne hlx hly
   ·intro y hy hly
    have hyi:y.s≠i:=by
     intro e
     have:=(hsa y hy).1
     rw[e,←hxa,hxl.2.1]at this
     cases this
    simp only[hyi,if_false]at hly ⊢;obtain⟨hla,g,cs,h1,h2,h3⟩:=hD.put y hy hly
    have hai:y.x.a≠i:=by intro e;rw[e,hil]at hla;cases hla
    simp only[hai,if_false];exact⟨hla,g,cs,h1,h2.ext hext,y.F.m _ _ _ hext h3⟩
  |none=>
   have nota:∀x∈als,x.a≠i:=by
    intro x hx e
    have:=(hal x hx).1
    rw[e,ha]at this
    cases this
   simp only[ha]at hg
   cases hs:szAt sas i with
   |some y=>
    simp only[hs]at hg;have hym:=(szAt_mem hs).1;have hys:=(szAt_mem hs).2;have hyl:=hsa y hym;have hcheck:=List.all_eq_true.1 hok2 y hym;simp only[Bool.and_eq_true]at hcheck
    have hla:listed y.x.a=true:=by
     refine hbef y.x.a (anc_of _ [y.s] (fun j hj=> ?_) hcheck.1 _ (List.mem_singleton.2 rfl)) (nota y.x hyl.2.2)
     have:j=y.s:=by simpa using hj
     rw[this,hys];exact .self
    obtain⟨g,old,h1,h2,h3,h4,h5⟩:=hD.made y.x hyl.2.2 hla
    have hold:old=y.x.z:=h5 fun y' hy' hya=>by
     by_cases he:y'.s=y.s
     ·rw[he,hys];exact hil
     ·exact absurd hya (hsa2 y' hy' y hym he)
    subst hold;have hxl:=hal y.x hyl.2.2
    have key:∀(v:Value) (w':World),Chg g w1 w'→(∃cs,Bx y.x.t w' g cs∧cs.size=y.x.n∧y.F.p (.agg cs) w')→ZChg w.heap.size (TZ als) w1 w'∧JZ als sas (fun j=>if j=i then true else listed j) (fun j=>if j=i then v else f j) w':=by
     rintro v w' hch ⟨cs,k1,k2,k4⟩;have hsc:ZChg w.heap.size (TZ als) w1 w':=⟨g,y.x.t,y.x.z,cs,h2,List.mem_map.2 ⟨y.x,hyl.2.2,rfl⟩,h3,k1,hch⟩;refine⟨hsc,?_,?_,?_⟩
     ·intro x' hx' hl';simp only[nota x' hx',if_false]at hl' ⊢;obtain⟨g',cs',m1,m2,m3,m4,m5⟩:=hD.made x' hx' hl'
      by_cases he:x'.a=y.x.a
      ·have:x'=y.x:=by
        have q1:=(hal x' hx').1;rw[he,hxl.1]at q1;exact(Option.some.inj q1).symm
       subst this;exact⟨g,cs,h1,h2,k1,k2,fun hn=>by have:=hn y hym rfl;simp[hys]at this⟩
      ·have hne:=hD.apart x' hx' y.x hyl.2.2 he hl' hla
       have:g'≠g:=by
        rintro rfl;exact hne (by rw[m1,h1])
       exact⟨g',cs',m1,m2,m3.chg hch this,m4,fun hn=>m5 fun y hy hyx=>unl _ (hn y hy hyx)⟩
     ·intro x' hx' y' hy' hne hlx hly;simp only[nota x' hx',nota y' hy',if_false]at hlx hly ⊢;exact hD.apart x' hx' y' hy' hne hlx hly
     ·intro z hz hlz;simp only[nota z.x (hsa z hz).2.2,if_false]
      by_cases hzi:z.s=i
      ·have:z=y:=by
        have q1:=(hsa z hz).1;rw[hzi,hs]at q1;exact(Option.some.inj q1).symm
       subst this;exact⟨hla,g,cs,h1,k1,k4⟩
      ·simp only[hzi,if_false]at hlz;obtain⟨hlz2,g',cs',m1,m2,m3⟩:=hD.put z hz hlz;have hne:=hD.apart z.x (hsa z hz).2.2 y.x hyl.2.2 (hsa2 z hz y hym (by omega)) hlz2 hla
       have:g'≠g:=by
        rintro rfl;exact hne (by rw[m1,h1])
       exact⟨hlz2,g',cs',m1,m2.chg hch this,z.F.m3 _ _ _ hsc m3⟩
    refine OpGoal.mono2 (fun v w' hch hk=> ?_) (fun h=>⟨fun _ h=>by simp[hs]at h,(key undef w1 (Chg.refl g w1) h).2⟩) (hg g h1 h2 h3);have hk2:=key v w' hch hk;exact⟨by simp only[R,ha,hs,Option.isSome_none,Option.isSome_some,Bool.false_eq_true,false_or,reduceCtorEq,if_false];exact hk2.1,fun _ h=>by simp[hs]at h,hk2.2⟩
   |none=>
    simp only[hs]at hg
    have key:∀v w',Ext w1 w'→JZ als sas (fun j=>if j=i then true else listed j) (fun j=>if j=i then v else f j) w':=by
     intro v w' hext;refine⟨?_,?_,?_⟩
     ·intro x' hx' hl';simp only[nota x' hx',if_false]at hl' ⊢;obtain⟨g',cs',m1,m2,m3,m4,m5⟩:=hD.made x' hx' hl';exact⟨g',cs',m1,m2,m3.ext hext,m4,fun hn=>m5 fun y hy hyx=>unl _ (hn y hy hyx)⟩
     ·intro x' hx' y' hy' hne hlx hly;simp only[nota x' hx',nota y' hy',if_false]at hlx hly ⊢;exact hD.apart x' hx' y' hy' hne hlx hly
     ·intro z hz hlz;simp only[nota z.x (hsa z hz).2.2,if_false]
      have hzi:z.s≠i:=by
       intro e
       have:=(hsa z hz).1
       rw[e,hs]at this
       cases this
      simp only[hzi,if_false]at hlz;obtain⟨hlz2,g',cs',m1,m2,m3⟩:=hD.put z hz hlz;exact⟨hlz2,g',cs',m1,m2.ext hext,z.F.m _ _ _ hext m3⟩
    refine OpGoal.mono2 (fun v w' hext hpv=>⟨by simp only[R,ha,hs,Option.isSome_none,or_true,if_true];exact hext,fun _ _=>hpv,key v w' hext⟩) (fun h=>⟨fun _ _=>h,key undef w1 (Ext.refl w1)⟩) hg
 ·intro f w1 hG hp hj;obtain⟨listed,hall,hD⟩:=hj;rw[hfr]
  refine hend f w1 hG (allPosts_of _ _ fun i _ hi=>hp i (by simpa using hi)) fun x hx hlt=> ?_
  obtain⟨g,cs,m1,m2,m3,m4,_⟩:=hD.made x hx (hall _ (by simpa using hlt));refine⟨g,cs,m1,m2,m3,m4,fun y hy hys hya hyt=> ?_⟩;obtain⟨_,g',cs',n1,n2,n3⟩:=hD.put y hy (hall _ (by simpa using hys));rw[hya,m1]at n1;simp only[Value.pointer.injEq,Option.some.injEq,Addr.mk.injEq,and_true]at n1;subst n1;unfold Bx at n2 m3;rw[hyt,m3]at n2;simp only[Option.some.injEq,Obj.cells.injEq,and_true]at n2;subst n2;exact n3
theorem og_storeZ{P:Program}{o:Oper}{a:Act}{f:Nat→Value}{w:World}{S:Nat}{T:List (TypeId×Array Value)}(F:PZ S T)(n:Nat)(ty:TypeId)(x y:Operand)(g:Nat)(t:TypeId)(old cells:Array Value)(hgd:o.guard=none)(ho:o.op= .store ty x y)(hx:a.eval x= .pointer (some ⟨g,0,none⟩))(hy:a.eval y= .agg cells)
  (hg:Bx t w g old) (hi:(P.info? ty).map (·.size)=some cells.size) (hold:old.size=n) (hn:cells.size=n) (h1:cells.all (·.oneCell')=true) (hSg:S≤g) (hT:(t,old)∈T) (q:F.p (.agg cells) w):
  OpGoal P o a f w (Chg g) (fun _ w2=>∃cs,Bx t w2 g cs∧cs.size=n∧F.p (.agg cs) w2):=by
 unfold OpGoal;rw[hgd];refine wp_store_row ty x y ho g cells hx hy t old hg hi (by omega) h1 ⟨_,rfl,Chg.setRow w g cells,cells,hg.setRow cells,hn,?_⟩;exact F.m3 _ _ _ ⟨g,t,old,cells,hSg,hT,hg,hg.setRow cells,Chg.setRow w g cells⟩ q
def TCn(T:List (TypeId×Array Value)):Prop:=∀x∈T,x.1=36
theorem ZChg.cn{S:Nat}{T:List (TypeId×Array Value)}{w1 w2:World}(h:ZChg S T w1 w2)(hT:TCn T):∃g cs,S≤g∧Bx 36 w1 g cs∧Chg g w1 w2:=by
 obtain⟨g,t,old,cs,h1,h2,h3, -,h5⟩:=h
 have:=hT _ h2
 simp only at this
 subst this;exact⟨g,old,h1,h3,h5⟩
theorem CnO.chgB{B k g:Nat}{w w':World}{v:Value}{c:CR}{cs:Array Value}(h:CnO B k w v c)(hc:Chg g w w')(hb:Bx 36 w g cs):CnO B k w' v c:=by
 obtain⟨a,n,cp,b,a1,n1,c1,a2,n2,c2,h1,h2,h3,h4⟩:=h;exact⟨a,n,cp,b,a1,n1,c1,a2,n2,c2,h1,h2.chgB hc hb (by decide) (by decide),h3.chgB hc hb (by decide),h4⟩
theorem CnO.partsz{B k:Nat}{w:World}{v:Value}{c:CR}(h:CnO B k w v c):∃cells,v= .agg cells∧cells.size=5∧cells.all (·.oneCell')=true:=by
 obtain⟨a,n,cp,b,a1,n1,c1,a2,n2,c2,rfl, -⟩:=h;exact⟨_,rfl,rfl,all5 rfl rfl rfl rfl rfl⟩
theorem Bx.chgK{t t':TypeId}{w w':World}{g g':Nat}{cs cs':Array Value}(h:Bx t w g cs)(hc:Chg g' w w')(hb:Bx t' w g' cs')(ht:t'≠t):Bx t w' g cs:=by
 refine h.chg hc ?_;rintro rfl;unfold Bx at h hb;rw[h]at hb;simp only[Option.some.injEq,Obj.cells.injEq,and_true]at hb;exact ht hb.2.symm
def BO(w:World)(u:Value)(bs:List Bool):Prop:=∃ad cap,u= .slice ad bs.length cap∧bs.length≤cap∧cap≤9223372036854775807∧(bs=[]∨∃g cs,ad=some ⟨g,0,none⟩∧Bx 4 w g cs∧∀(i:Nat) (b:Bool),bs[i]? =some b→cs[i]? =some (.bool b))
theorem BO.bl{w:World}{u:Value}{bs:List Bool}(h:BO w u bs):BL w u bs:=by
 obtain⟨ad,cap,h1,h2,h3,h4⟩:=h;refine⟨ad,cap,h1,h2,h3,?_⟩
 rcases h4 with h4 |⟨g,cs,h4,h5,h6⟩
 ·exact .inl h4
 ·refine .inr ⟨g,0,h4,fun i b hi=>⟨.bool b,?_,rfl⟩⟩
  have:=h5.cell (0+i)
  rw[this,Nat.zero_add];exact h6 i b hi
theorem BO.ext{w w':World}{u:Value}{bs:List Bool}(h:BO w u bs)(he:Ext w w'):BO w' u bs:=by
 obtain⟨ad,cap,h1,h2,h3,h4⟩:=h;refine⟨ad,cap,h1,h2,h3,?_⟩
 rcases h4 with h4 |⟨g,cs,h4,h5,h6⟩
 ·exact .inl h4
 ·exact .inr ⟨g,cs,h4,h5.ext he,h6⟩
def PZ.bo{S:Nat}{T:List (TypeId×Array Value)}(hT:TCn T)(bs:List Bool):PZ S T:=⟨fun u w=>BO w u bs,fun _ _ _ h hp=>hp.ext h,fun _ _ _ h hp=>by
 obtain⟨g,cs,k1,k2,k3⟩:=h.cn hT;obtain⟨ad,cap,h1,h2,h3,h4⟩:=hp;refine⟨ad,cap,h1,h2,h3,?_⟩
 rcases h4 with h4 |⟨g,cs,h4,h5,h6⟩
 ·exact .inl h4
 ·exact .inr ⟨g,cs,h4,h5.chgK k3 k2 (by decide),h6⟩⟩
def PZ.pred{S:Nat}{T:List (TypeId×Array Value)}(F:Value→Prop):PZ S T:=⟨fun u _=>F u,fun _ _ _ _ h=>h,fun _ _ _ _ h=>h⟩
theorem emptyF(w:World):(Instr.buildSlice 48 0 #[]).run Tryz.prog w= .ok (.slice (some ⟨w.heap.size,0,none⟩) 0 0) (w.alloc (.cells #[] 4)):=by kernel_rfl
theorem og_emptyB{o:Oper}{a:Act}{f:Nat→Value}{w:World}{post:Value→World→Prop}(hgd:o.guard=none)(ho:o.op= .buildSlice 48 0 #[])(hq:∀w',Ext w w'→post (.slice (some ⟨w.heap.size,0,none⟩) 0 0) w'):OpGoal Tryz.prog o a f w Ext post:=by
 unfold OpGoal;rw[hgd];unfold Oper.wp execOp;simp only[ho,Sem.run_bind,List.map_toArray,List.map_nil,emptyF,Result.andThen_ok];exact⟨_,rfl,(Ext.refl w).alloc _,hq _ ((Ext.refl w).alloc _)⟩
theorem og_appB{o:Oper}{a:Act}{f:Nat→Value}{w:World}{post:Value→World→Prop}(s x:Operand)(hgd:o.guard=none)(ho:o.op= .call {callee:= .builtin .append,args:=#[s,x],argTypes:=#[48,48]})
  (g:Nat) (hs:a.eval s= .slice (some ⟨g,0,none⟩) 0 0) (v:Value) (bs:List Bool) (hx:a.eval x=v) (hb:BL w v bs) (hl:bs.length≤140737488355328) (h:∀v' w',Ext w w'→BO w' v' bs→post v' w'):OpGoal Tryz.prog o a f w Ext post:=by
 unfold OpGoal;rw[hgd];obtain⟨ad,cap,rfl,h1,h2,h3⟩:=hb
 have hi0:(Tryz.prog.info? 4).map (fun i=>(i.size,i.bytes))=some (1,1):=by kernel_rfl
 have hz0:((Tryz.prog.info? 4).bind (·.zero))=some (.bool false):=by kernel_rfl
 cases hie:Tryz.prog.info? 4 with
 |none=>rw [hie]at hi0;cases hi0
 |some i=>
 rw[hie]at hi0 hz0;simp only[Option.map_some,Option.some.injEq,Prod.mk.injEq,Option.bind_some]at hi0 hz0
 have key:∃v' w',(Builtin.append_ #[48,48] o.type #[.slice (some ⟨g,0,none⟩) 0 0,.slice ad bs.length cap]).run Tryz.prog w= .ok v' w'∧Ext w w'∧BO w' v' bs:=by
  match bs,h1,h3,hl with
  | [],h1,h3,hl=>
   have hsrc:Src Tryz.prog i.size 48 (.slice ad 0 cap) 0 [] w:=by
    cases ad with
    |none=>exact Src.ofNil w Tryz.underlying48 cap
    |some q=>exact Src.ofSlice w Tryz.underlying48 q 0 cap [] (by simp) (fun j u hj=>by simp at hj) (fun u hu=>by cases hu)
   exact⟨_,_,run_append_room_src w 48 48 o.type 4 i Tryz.underlying48 hie g 0 0 0 _ 0 [] hsrc (Nat.le_refl _) (fun j hj=>by simp at hj) (fun j hj=>by simp at hj),Ext.refl w,⟨_,0,rfl,Nat.le_refl _,by omega,.inl rfl⟩⟩
  |b::bs,h1,h3,hl=>
   rcases h3 with h3 |⟨g',off,rfl,h4⟩
   ·cases h3
   have hsrc:Src Tryz.prog i.size 48 (.slice (some ⟨g',off,none⟩) (b::bs).length cap) (b::bs).length ((b::bs).map Value.bool) w:=by
    refine Src.ofSlice w Tryz.underlying48 _ _ _ _ (by rw[List.length_map,hi0.1,Nat.mul_one]) (fun j u hj=> ?_) (fun u hu=> ?_)
    ·rw[List.getElem?_map]at hj
     cases hbj:(b::bs)[j]? with
     |none=>rw [hbj]at hj;cases hj
     |some y=>
      rw[hbj]at hj
      cases hj
      obtain⟨v,k1,rfl⟩:=h4 j y hbj;rw[Addr.add_lit];exact k1
    ·obtain⟨y, -,rfl⟩:=List.mem_map.1 hu
     rfl
   have hr:=run_append_grow_src w 48 48 o.type 4 i (.bool false) Tryz.underlying48 hie hz0 (some ⟨g,0,none⟩) 0 0 [] (run_firstCells_some w.drew i.size 0 ⟨g,0,none⟩ 0 0 [] (by simp) (fun j u hj=>by simp at hj)) _ _ _ hsrc (by simp) (by simp only[List.length_cons]at hl ⊢;omega) (by
    rw[hi0.2,Nat.mul_one];unfold Builtin.nextslicecap;rw[if_pos (by simp)]
    omega)
   refine⟨_,_,hr,((Ext.refl w).drew).trans ((Ext.refl _).alloc _),?_⟩;obtain⟨gc,hgc⟩:∃gc,gc=grownCap w (0+(b::bs).length) 0 4:=⟨_,rfl⟩;have hge:=grownCap_ge w (0+(b::bs).length) 0 4;have hle:=grownCap_le_maxLen w (0+(b::bs).length) 0 4 (by unfold maxLen;omega);rw[←hgc]at hge hle ⊢;unfold maxLen at hle;rw[Nat.zero_add]at hge ⊢;refine⟨_,gc,rfl,hge,by omega,.inr ⟨w.heap.size,_,rfl,Bx.new w.drew 4 _,fun j y hj=> ?_⟩⟩;rw[List.nil_append,Array.getElem?_append_left (by simp only[List.size_toArray,List.length_map];exact(List.getElem?_eq_some_iff.1 hj).1),List.getElem?_toArray,List.getElem?_map,hj]
   rfl
 obtain⟨v',w',hr,he,hbl⟩:=key;unfold Oper.wp
 simp[execOp,ho,resolve,invoke,builtin,hs,hx,hr,Result.andThen]
 exact⟨v',rfl,he,h v' w' he hbl⟩
open Go.ChangeShapes Go.WideShapes Go.ChangeAt
section
variable {H:Type} {enc:TypeId×Value→H} {w:World} {base:Nat} {spare:Nat→Bool} {held:Bool}
end
theorem rawq_none(w:World):RawQ w (.agg #[.bool false,.slice none 0 0,.slice none 0 0]) false [] []:=⟨_,_,rfl,⟨none,0,rfl,Nat.le_refl _,by omega,Rd.nil _ _⟩,⟨none,0,rfl,Nat.le_refl _,by omega,Rd.nil _ _⟩⟩
def PP.slq{S:Nat}(l:List RE):PP S:=⟨true,fun u w=>SLQ w u l,fun _ _ _ h hp=>SLQ.ext hp h,fun h=>by cases h⟩
def RdV(B k:Nat)(cd:Int)(c:CR)(w:World)(v:Value):Prop:=(cd=0→CnO B k w v c)∧(cd≠0→v=zeroC)
theorem RdV.ext{B k:Nat}{cd:Int}{c:CR}{w w':World}{v:Value}(h:RdV B k cd c w v)(he:Ext w w'):RdV B k cd c w' v:=⟨fun h0=>(h.1 h0).ext he,h.2⟩
theorem RdV.partsz{B k:Nat}{cd:Int}{c:CR}{w:World}{v:Value}(h:RdV B k cd c w v):∃cells,v= .agg cells∧cells.size=5∧cells.all (·.oneCell')=true:=by
 by_cases h0:cd=0
 ·exact(h.1 h0).partsz
 ·rw[h.2 h0];exact⟨_,rfl,rfl,all5 rfl rfl rfl rfl rfl⟩
def PZ.rndV{S:Nat}{T:List (TypeId×Array Value)}(hT:TCn T)(k:Nat)(cd:Int)(c:CR):PZ S T:=⟨fun u w=>RdV S k cd c w u,fun _ _ _ h hp=>hp.ext h,fun _ _ _ h hp=>(let ⟨_,_,_,h2,h3⟩:=h.cn hT;⟨fun h0=>(hp.1 h0).chgB h3 h2,hp.2⟩)⟩
def PZ.rnd{S:Nat}{T:List (TypeId×Array Value)}(hT:TCn T)(k:Nat)(cd:Int)(c:CR):PZ S T:=⟨fun u w=>∃v,u= .tuple #[v,.int .i64 cd]∧RdV S k cd c w v,fun _ _ _ h hp=>(let ⟨v,h1,h2⟩:=hp;⟨v,h1,h2.ext h⟩),fun _ _ _ h hp=>(let ⟨v,h1,hq⟩:=hp;let ⟨_,_,_,h2,h3⟩:=h.cn hT;⟨v,h1,fun h0=>(hq.1 h0).chgB h3 h2,hq.2⟩)⟩
set_option maxHeartbeats 32000000 in
theorem consRounds_calls(v u t:Value)(c:CE)(bs:List Bool)(xl:List RE)(w:World)(hv:CnE w v c)(hu:BL w u bs)(hl:bs.length≤140737488355328)(ht:SLQ w t xl):
  Calls Tryz.prog 6 #[v,u,t] w fun e w'=>e= .returned (.bool true)∧Ext w w':=by
 have HV:=Lib.hid hv;obtain⟨ax,nx,px,bbx,a1x,n1x,c1x,a2x,n2x,c2x,rfl, -, -⟩:=hv;have HT:=Lib.hid ht;have HB:=Lib.hid hu;have HL:=Lib.hid hl
 have lim:(100000:Nat)≤LIM:=by rw[LIM_eq];omega
 clear ht hu hl;obtain⟨w1,hw1,e1,b1_,s1⟩:=alloc1 w #[.int .i64 c.1,.slice ax nx px,.bool bbx,.slice a1x n1x c1x,.slice a2x n2x c2x] 36
 go_enter Tryz.func6,Tryz.ntmps6
 go_wp2_with fail;rw[←hw1];refine(speaksc_calls w1).mono ?_;rintro e w2 ⟨rfl,e2⟩;have E2:=e1.trans e2;have P2:=b1_.ext e2;have hp0:=P2.cell 0;have hp1:=P2.cell 1;have hp2:=P2.cell 2;have hp3:=P2.cell 3;have hp4:=P2.cell 4;clear hw1 b1_ e1 e2;obtain⟨w3,hw3,e3,bx3,s3⟩:=alloc1 w2 #[.int .i64 c.1,.slice ax nx px,.bool bbx,.slice a1x n1x c1x,.slice a2x n2x c2x] 36;have E3:=E2.trans e3;have L3:=cle_new1 bx3 (HV.out.ext E3);go_wp2_with fail;rw[←hw3];refine(greatC_calls _ [c] w3 L3 (by simp)).mono ?_;rintro e w4 ⟨rfl,e4⟩;have E4:=E3.trans e4;have P4:=(P2.ext e3).ext e4;clear hw3 hp0 hp1 hp2 hp3 hp4 bx3 s3 P2 L3 E2 E3 e3 e4;obtain⟨p,hp⟩:∃p,p=greatC [c]:=⟨_,rfl⟩;rw[←hp];have HP:=Lib.hid hp;clear hp
 cases p with
 |true=>
  go_wp2;go_ret;exact⟨rfl,E4⟩
 |false=>
 go_wp2_with fail;refine(greatAll_calls _ xl w4 (HT.out.ext E4)).mono ?_;rintro e w5 ⟨rfl,e5⟩;have E5:=E4.trans e5;have P5:=P4.ext e5;clear E4 P4 e5;obtain⟨r,hr⟩:∃r,r=greatE xl:=⟨_,rfl⟩;rw[←hr];have HR:=Lib.hid hr;clear hr
 cases r with
 |true=>
  go_wp2;go_ret;exact⟨rfl,E5⟩
 |false=>
 obtain⟨⟨la0,la⟩,⟨la2,la3⟩,fa⟩:=great_in (c:=c) HP.out.symm (by simp);obtain⟨y1,y2⟩:=greatE_not HR.out.symm;have FA:=Lib.hid (fun(w':World) (h:Ext w w')=>fa (HV.out.ext h));have GA:=Lib.hid (fun(w':World) (v':Value) (h:CnE w' v' c)=>fa h);obtain⟨X,hX⟩:∃X,X=xl.map ratE:=⟨_,rfl⟩;have XL:Hid (X.length≤30):=Lib.hid (by rw[hX,List.length_map];omega);have XN:=Lib.hid (show xl.length≤30 by omega);have X2:=Lib.hid y2;have TQ:=Lib.hid (show∀(w':World) (v':Value),SLQ w' v' xl→QL 6 w' v' X from fun w' v' h=>by rw[hX];exact h.ql 6 (by omega) (by omega) y2);have TX:=Lib.hid (show∀(w':World),Ext w w'→QL 6 w' t X from fun w' h=>TQ.out _ _ (HT.out.ext h))
 have SA:Hid ((ratC c).1=c.1):=Lib.hid rfl
 obtain⟨C,hC⟩:∃C,C=ratC c:=⟨_,rfl⟩;rw[←hC]at FA la SA GA;have LA:=Lib.hid la;have WA:=Lib.hid (And.intro la0 (And.intro la2 la3));obtain⟨da,hda⟩:∃da,da=holdsC C X:=⟨_,rfl⟩;have HD:=Lib.hid hda;obtain⟨fl,hfl⟩:∃fl,fl=falseC C:=⟨_,rfl⟩;have HF:=Lib.hid hfl;obtain⟨cd,hcd⟩:∃cd,cd=roundE C bs:=⟨_,rfl⟩;have HCD:=Lib.hid hcd;clear fa HP HR y1 y2 hX hC la la0 la2 la3 hda hfl hcd;obtain⟨fa,hfa⟩:∃fa,fa=fl:=⟨_,rfl⟩;rw[←hfa]at HF;clear hfa fl;have P:=P5;have hp0:=P.cell 0;have hp1:=P.cell 1;have hp2:=P.cell 2;have hp3:=P.cell 3;have hp4:=P.cell 4;go_wp2_with fail;refine(copyCons_calls _ c w5 (HV.out.ext E5) (by have:=WA.out.1;omega) WA.out.2.1 WA.out.2.2).mono ?_;rintro e w6 ⟨v6,rfl,r6,e6⟩;have C6:=Lib.hid r6.cnE;obtain⟨a6,n6,p6,b6,a16,n16,c16,a26,n26,c26,rfl, -⟩:=r6;obtain⟨w7,hw7,e7,B7,s7⟩:=alloc1 w6 #[.int .i64 c.1,.slice a6 n6 p6,.bool b6,.slice a16 n16 c16,.slice a26 n26 c26] 36;have E7:=(E5.trans e6).trans e7;have P7:=(P5.ext e6).ext e7;have hsw7:=E7.size;have C7:=Lib.hid (C6.out.ext e7);have hk0:=B7.cell 0;have hk1:=B7.cell 1;have hk2:=B7.cell 2;have hk3:=B7.cell 3;have hk4:=B7.cell 4;rw[hw7]at hk0 hk1 hk2 hk3 hk4;have C7K:=Lib.hid (C6.out.ext e7);clear hp0 hp1 hp2 hp3 hp4 P P5 E5 e6 e7 C6;go_wp2_with fail;rw[←hw7];refine(cform_calls 6 210 _ C w7 (GA.out _ _ C7.out) (by have:=LA.out;omega) (by have:=LA.out;omega) (by have:=LA.out;omega) (by omega)).mono ?_
 rintro e w8 ⟨v8,rfl,r8,e8⟩;have F8:=Lib.hid (r8.cnE (by omega));have G8:=Lib.hid (r8.spc (Nat.le_refl _));obtain⟨a8,n8,p8,b8,a18,n18,c18,a28,n28,c28,rfl, -⟩:=r8;obtain⟨w9,hw9,e9,B9,s9⟩:=alloc1 w8 #[.int .i64 (formC C).1,.slice a8 n8 p8,.bool b8,.slice a18 n18 c18,.slice a28 n28 c28] 36;have h79:=e8.trans e9;have E9:=E7.trans h79;have P9:=P7.ext h79;have K9:=B7.ext h79;have C9:=Lib.hid (C7.out.ext h79);have F9:=Lib.hid (F8.out.ext e9);have G9:=Lib.hid (G8.out.ext e9);have hs79:=h79.size;clear hw7 hk0 hk1 hk2 hk3 hk4 e8 e9 P7 E7 B7 C7 F8 G8;go_wp2_with fail;rw[←hw9]
 have hT:TCn (TZ [⟨8,36,5,#[.int .i64 0,.slice none 0 0,.bool false,.slice none 0 0,.slice none 0 0]⟩]):=by
  intro x hx;simp only[TZ,List.map_cons,List.map_nil,List.mem_singleton]at hx;rw[hx]
 refine wp_region_alz [⟨8,36,5,#[.int .i64 0,.slice none 0 0,.bool false,.slice none 0 0,.slice none 0 0]⟩] [⟨9,⟨8,36,5,#[.int .i64 0,.slice none 0 0,.bool false,.slice none 0 0,.slice none 0 0]⟩,PZ.rndV hT 211 cd (roundV C)⟩] [PZ.val (.agg #[.int .i64 c.1,.slice a6 n6 p6,.bool b6,.slice a16 n16 c16,.slice a26 n26 c26]),PZ.pred (fun u=>∃g,u= .slice (some ⟨g,0,none⟩) 0 0),PZ.val (u),PZ.bo hT bs,PZ.rnd hT 211 cd (roundV C),PZ.rnd hT 211 cd (roundV C),PZ.rndV hT 211 cd (roundV C),PZ.val (.int .i64 cd),PZ.any,PZ.any,PZ.val (.int .i64 cd)]
  (by kernel_rfl) (by kernel_rfl) (fun f=>(by simp only[fillR,fillL,List.setIfInBounds_toArray,List.set_cons_succ,List.set_cons_zero,Nat.reduceAdd];rfl)) ?_ ?_ ?_ ?_ ?_
 ·intro x hx;simp only[List.mem_cons,List.not_mem_nil,or_false]at hx;rcases hx with rfl
  ·exact⟨rfl,rfl,rfl⟩
 ·intro x hx;simp only[List.mem_cons,List.not_mem_nil,or_false]at hx;rcases hx with rfl<;>exact ⟨rfl,rfl,by simp⟩
 ·intro x hx y hy h;simp only[List.mem_cons,List.not_mem_nil,or_false]at hx hy;rcases hx with rfl<;>rcases hy with rfl
  ·exact absurd rfl h
 ·refine⟨?_,?_,?_,?_,?_,?_,?_,?_,?_,?_,?_,trivial⟩
  ·intro f w2 hE hp;have hS:=hE.size;change OpGoal _ _ _ f w2 Ext _;exact og_load (P:=Tryz.prog) _ _ w6.heap.size _ _ _ rfl rfl rfl (K9.ext hE) Tryz.underlying36 rfl (by kernel_rfl) rfl
  ·intro f w2 hE hp;have hS:=hE.size;change OpGoal _ _ _ f w2 Ext _;exact og_emptyB rfl rfl (fun w' h=>⟨_,rfl⟩)
  ·intro f w2 hE hp;have hS:=hE.size;change OpGoal _ _ _ f w2 Ext _;simp only[OpGoal];go_simp;exact⟨_,rfl,Ext.refl _,rfl⟩
  ·intro f w2 hE hp;have hS:=hE.size;have q28:=tellZ hp 0 1 rfl rfl rfl
   have q29:f 2=u:=tellZ hp 1 2 rfl rfl rfl
   change OpGoal _ _ _ f w2 Ext _;obtain⟨g28,hg28⟩:=q28;exact og_appB _ _ rfl rfl g28 hg28 u bs q29 (HB.out.ext (E9.trans hE)) HL.out (fun v' w' h k=>k)
  ·intro f w2 hE hp;have hS:=hE.size
   have q27:f 0= .agg #[.int .i64 c.1,.slice a6 n6 p6,.bool b6,.slice a16 n16 c16,.slice a26 n26 c26]:=tellZ hp 0 0 rfl rfl rfl
   have q30:=tellZ hp 1 3 rfl rfl rfl;change OpGoal _ _ _ f w2 Ext _;refine oC #[f 0,f 3] Tryz.func35 rfl rfl ?_;rw[q27];refine(cround_calls 6 210 _ _ C bs _ (GA.out _ _ (C9.out.ext hE)) (BO.bl q30) (by have:=LA.out;omega) (by have:=LA.out;omega) (by have:=LA.out;omega) (by omega) (by omega)).mono ?_;rintro e w' ⟨v',rfl,h2,hok,hno⟩;rw[←HCD.out]at hok hno ⊢;exact⟨_,rfl,h2,v',rfl,fun h0=>(hok h0).mono hS,hno⟩
  ·intro f w2 hE hp;have hS:=hE.size;have q31:=tellZ hp 0 4 rfl rfl rfl;change OpGoal _ _ _ f w2 Ext _;exact⟨_,rfl,Ext.refl _,q31⟩
  ·intro f w2 hE hp;have hS:=hE.size;have q26:=tellZ hp 0 5 rfl rfl rfl;change OpGoal _ _ _ f w2 Ext _;obtain⟨u,hu,ho⟩:=q26;simp only[OpGoal];go_simp;exact⟨_,rfl,Ext.refl _,ho⟩
  ·intro f w2 hE hp;have hS:=hE.size;have q26:=tellZ hp 0 5 rfl rfl rfl;change OpGoal _ _ _ f w2 Ext _;obtain⟨u,hu,ho⟩:=q26;simp only[OpGoal];go_simp;exact⟨_,rfl,Ext.refl _,rfl⟩
  ·intro f w2 hE hp;have hS:=hE.size;change OpGoal _ _ _ f w2 (fun a b=>b=a.alloc _) _;exact og_alloc (P:=Tryz.prog) _ _ (.agg #[.int .i64 0,.slice none 0 0,.bool false,.slice none 0 0,.slice none 0 0]) rfl rfl (by kernel_rfl) rfl
  ·intro f w2 hE hp;have hS:=hE.size;have q32:=tellZ hp 1 6 rfl rfl rfl;intro g hfa hSg hbx;change OpGoal _ _ _ f w2 (Chg g) _;obtain⟨cells,hv,hcs,hc1⟩:=RdV.partsz q32;exact og_storeZ (P:=Tryz.prog) (PZ.rndV hT 211 cd (roundV C)) 5 _ _ _ g _ _ cells rfl rfl hfa hv hbx (by rw[hcs];kernel_rfl) rfl hcs hc1 hSg (by simp[TZ]) (hv▸q32)
  ·intro f w2 hE hp;have hS:=hE.size
   have q33:f 7= .int .i64 cd:=tellZ hp 0 7 rfl rfl rfl
   change OpGoal _ _ _ f w2 Ext _;simp only[OpGoal];go_simp;exact⟨_,rfl,Ext.refl _,rfl⟩
 ·intro f w10 hE hp hal;obtain⟨ga9,ca9,fa9,la9,ba9,na9,pa9⟩:=hal ⟨8,36,5,#[.int .i64 0,.slice none 0 0,.bool false,.slice none 0 0,.slice none 0 0]⟩ (by simp) (by decide)
  dsimp only at fa9 la9 ba9 na9
  have za9:=pa9 ⟨9,⟨8,36,5,#[.int .i64 0,.slice none 0 0,.bool false,.slice none 0 0,.slice none 0 0]⟩,PZ.rndV hT 211 cd (roundV C)⟩ (by simp) (by show 9<11;decide) rfl rfl;clear pa9
  have q10:f 10= .int .i64 cd:=endZ hp 10 (by decide) rfl rfl
  try simp only[q10]
  clear hp hal;simp only[fa9];have hrd:RdV w9.heap.size 211 cd (roundV C) w10 (.agg ca9):=za9;have E10:=E9.trans hE;have P10:=P9.ext hE;have K10:=K9.ext hE;have B10:=B9.ext hE;have C10:=Lib.hid (C9.out.ext hE);have F10:=Lib.hid (F9.out.ext hE);have G10:=Lib.hid (G9.out.ext hE);have N10:=Lib.hid (show Ext w7 w10 from h79.trans hE);have hs910:=hE.size;clear hT za9 hE E9 P9 K9 B9 C9 F9 G9 h79 hw9;have hp0:=P10.cell 0;have hp1:=P10.cell 1;have hp2:=P10.cell 2;have hp3:=P10.cell 3;have hp4:=P10.cell 4;go_wp2_with fail;refine(round11_calls 6 211 _ _ C bs w10 (FA.out _ E10) (HB.out.ext E10) (by have:=LA.out;omega) (by omega) (by have:=LA.out;omega) (by omega) (by omega)).mono ?_;rintro e w11 ⟨v11,rfl,e11,hok,hno⟩;rw[←HCD.out]at hok hno ⊢
  by_cases h0:cd=0
  ·have hr9:=hrd.1 h0;have hr11:=hok h0;subst h0;have R9E:=Lib.hid ((hr9.ext e11).cnE (by omega));have R9S:=Lib.hid ((hr9.spc (Nat.le_refl _)).ext e11);have R11:=Lib.hid (hr11.cnE (by omega));obtain⟨a9,n9,p9,b9,a19,n19,c19,a29,n29,c29,hv9, -⟩:=hr9
   cases hv9
   obtain⟨aa,na,pa,ba,a1a,n1a,c1a,a2a,n2a,c2a,rfl, -⟩:=hr11;obtain⟨w12,hw12,e12,B12,s12⟩:=alloc1 w11 #[.int .i64 (roundV C).1,.slice aa na pa,.bool ba,.slice a1a n1a c1a,.slice a2a n2a c2a] 36;have h1012:=e11.trans e12;have EE:=E10.trans h1012;have P:=P10.ext h1012;have K:=K10.ext h1012;have F:=B10.ext h1012;have M:=ba9.ext h1012;have CE6:=Lib.hid (C10.out.ext h1012);have FE:=Lib.hid (F10.out.ext h1012);have FG:=Lib.hid (G10.out.ext h1012);have RE:=Lib.hid (R9E.out.ext e12);have RS:=Lib.hid (R9S.out.ext e12);have RB:=Lib.hid (R11.out.ext e12);have NN:=Lib.hid (N10.out.trans h1012);have hs1012:=h1012.size;clear hrd hok hno hp0 hp1 hp2 hp3 hp4 E10 P10 K10 B10 ba9 C10 F10 G10 R9E R9S R11 N10 e11 e12 h1012;go_wp2_with fail;rw[←hw12];clear hw12;refine wpQ [PP.val (.agg #[.int .i64 (formC C).1,.slice a8 n8 p8,.bool b8,.slice a18 n18 c18,.slice a28 n28 c28]),PP.val (.agg #[.int .i64 c.1,.slice ax nx px,.bool bbx,.slice a1x n1x c1x,.slice a2x n2x c2x]),PP.cnO 211 (formC C),PP.val (.bool true),PP.val (.bool false),PP.val (.bool false),PP.val (.agg #[.int .i64 c.1,.slice a6 n6 p6,.bool b6,.slice a16 n16 c16,.slice a26 n26 c26]),PP.val (.bool fa),PP.val (.agg #[.int .i64 c.1,.slice ax nx px,.bool bbx,.slice a1x n1x c1x,.slice a2x n2x c2x]),PP.val (.bool fa),PP.val (.bool false),PP.val (.bool false),PP.val (.bool false),PP.val (.agg #[.int .i64 c.1,.slice a6 n6 p6,.bool b6,.slice a16 n16 c16,.slice a26 n26 c26]),PP.val (t),PP.slq xl,PP.val (.bool da),PP.val (.agg #[.int .i64 c.1,.slice ax nx px,.bool bbx,.slice a1x n1x c1x,.slice a2x n2x c2x]),PP.val (t),PP.val (.bool da),PP.val (.bool false),PP.val (.bool false),PP.val (.bool false),PP.val (.int .i64 0),PP.val (.int .i64 0),PP.val (.bool false),PP.val (.bool false)] [] [0,1,2,3,4,5,6,7,8,9,10,11,12,13,14,15,16,17,18,19,20,21,22,23,24,25,26] ?_ ?_
   ·refine⟨?_,?_,?_,?_,?_,?_,?_,?_,?_,?_,?_,?_,?_,?_,?_,?_,?_,?_,?_,?_,?_,?_,?_,?_,?_,?_,?_,trivial⟩
    ·intro f w2 hG hp hl;have hE:Ext w12 w2:=hG;change OpGoal _ _ _ f w2 Ext _;exact og_load (P:=Tryz.prog) _ _ w8.heap.size _ _ _ rfl rfl rfl (F.ext hE) Tryz.underlying36 rfl (by kernel_rfl) rfl
    ·intro f w2 hG hp hl;have hE:Ext w12 w2:=hG;change OpGoal _ _ _ f w2 Ext _;exact og_load (P:=Tryz.prog) _ _ w.heap.size _ _ _ rfl rfl rfl (P.ext hE) Tryz.underlying36 rfl (by kernel_rfl) rfl
    ·intro f w2 hG hp hl;have hE:Ext w12 w2:=hG;have hS:=hE.size;have q41:=tE hp 0 1 rfl rfl rfl;change OpGoal _ _ _ f w2 Ext _;refine oC #[f 1] Tryz.func37 rfl rfl ?_;rw[q41];refine(form11_calls 6 211 _ C _ (FA.out _ (EE.trans hE)) (by have:=LA.out;omega) (by omega) (by have:=LA.out;omega) (by omega)).mono ?_;rintro e w' ⟨v',rfl,h1,h2⟩;exact⟨v',rfl,h2,h1.mono hS⟩
    ·intro f w2 hG hp hl;have hE:Ext w12 w2:=hG;have hS:=hE.size;have q40:=tE hp 0 0 rfl rfl rfl;have q42:=tellV hp 1 2 rfl rfl (fun _=>hE);change OpGoal _ _ _ f w2 Ext _;refine oC #[f 0,f 2] Tryz.func23 rfl rfl ?_;rw[q40];refine(sameCons_true _ _ (fmC (formC C)) _ (FE.out.ext hE) (CnO.cnE q42 (by omega))).mono ?_;rintro e w' ⟨rfl,h2⟩;exact⟨_,rfl,h2,rfl⟩
    ·intro f w2 hG hp hl;have q43:=tE hp 0 3 rfl rfl rfl;simp only[OpGoal];go_simp;exact⟨_,rfl,Ext.refl _,rfl⟩
    ·intro f w2 hG hp hl;have q44:=tE hp 0 4 rfl rfl rfl;simp only[OpGoal];go_simp;exact⟨_,rfl,Ext.refl _,rfl⟩
    ·intro f w2 hG hp hl;have hE:Ext w12 w2:=hG;have qg:=tE hp 0 5 rfl rfl rfl;change OpGoal _ _ _ f w2 Ext _;refine og_guard (j:=5) (want:=false) rfl qg ?_;change OpGoal _ _ _ f w2 Ext _;exact og_load (P:=Tryz.prog) _ _ w6.heap.size _ _ _ rfl rfl rfl (K.ext hE) Tryz.underlying36 rfl (by kernel_rfl) rfl
    ·intro f w2 hG hp hl;have hE:Ext w12 w2:=hG;have hS:=hE.size;have q46:=tE hp 0 6 rfl rfl rfl;have qg:=tE hp 1 5 rfl rfl rfl;change OpGoal _ _ _ f w2 Ext _;refine og_guard (j:=5) (want:=false) rfl qg ?_;change OpGoal _ _ _ f w2 Ext _;refine oC #[f 6] Tryz.func38 rfl rfl ?_;rw[q46];refine(cfalse_calls 6 _ C _ (GA.out _ _ (CE6.out.ext hE)) (by have:=LA.out;omega) (by have:=LA.out;omega)).mono ?_;rintro e w' ⟨rfl,h2⟩
     exact⟨_,rfl,h2,by rw[HF.out]<;>rfl⟩
    ·intro f w2 hG hp hl;have hE:Ext w12 w2:=hG;have qg:=tE hp 0 5 rfl rfl rfl;change OpGoal _ _ _ f w2 Ext _;refine og_guard (j:=5) (want:=false) rfl qg ?_;change OpGoal _ _ _ f w2 Ext _;exact og_load (P:=Tryz.prog) _ _ w.heap.size _ _ _ rfl rfl rfl (P.ext hE) Tryz.underlying36 rfl (by kernel_rfl) rfl
    ·intro f w2 hG hp hl;have hE:Ext w12 w2:=hG;have hS:=hE.size;have q48:=tE hp 0 8 rfl rfl rfl;have qg:=tE hp 2 5 rfl rfl rfl;change OpGoal _ _ _ f w2 Ext _;refine og_guard (j:=5) (want:=false) rfl qg ?_;change OpGoal _ _ _ f w2 Ext _;refine oC #[f 8] Tryz.func32 rfl rfl ?_;rw[q48];refine(false11_calls 6 _ C _ (FA.out _ (EE.trans hE)) (by omega) (by have:=LA.out;omega)).mono ?_;rintro e w' ⟨rfl,h2⟩
     exact⟨_,rfl,h2,by rw[HF.out]<;>rfl⟩
    ·intro f w2 hG hp hl;have q47:=tE hp 0 7 rfl rfl rfl;have q49:=tE hp 1 9 rfl rfl rfl;have qg:=tE hp 2 5 rfl rfl rfl;change OpGoal _ _ _ f w2 Ext _;refine og_guard (j:=5) (want:=false) rfl qg ?_
     cases fa<;>(simp only[OpGoal];go_simp;exact⟨_,rfl,Ext.refl _,rfl⟩)
    ·intro f w2 hG hp hl;have q45:=tE hp 0 5 rfl rfl rfl;have q50:=tE hp 1 10 rfl rfl rfl;simp only[OpGoal];go_simp;exact⟨_,rfl,Ext.refl _,rfl⟩
    ·intro f w2 hG hp hl;have q51:=tE hp 0 11 rfl rfl rfl;simp only[OpGoal];go_simp;exact⟨_,rfl,Ext.refl _,rfl⟩
    ·intro f w2 hG hp hl;have hE:Ext w12 w2:=hG;have qg:=tE hp 0 12 rfl rfl rfl;change OpGoal _ _ _ f w2 Ext _;refine og_guard (j:=12) (want:=false) rfl qg ?_;change OpGoal _ _ _ f w2 Ext _;exact og_load (P:=Tryz.prog) _ _ w6.heap.size _ _ _ rfl rfl rfl (K.ext hE) Tryz.underlying36 rfl (by kernel_rfl) rfl
    ·intro f w2 hG hp hl;have qg:=tE hp 0 12 rfl rfl rfl;change OpGoal _ _ _ f w2 Ext _;refine og_guard (j:=12) (want:=false) rfl qg ?_;simp only[OpGoal];go_simp;exact⟨_,rfl,Ext.refl _,rfl⟩
    ·intro f w2 hG hp hl;have hE:Ext w12 w2:=hG;have hS:=hE.size;have q54:=tE hp 0 14 rfl rfl rfl;have qg:=tE hp 1 12 rfl rfl rfl;change OpGoal _ _ _ f w2 Ext _;refine og_guard (j:=12) (want:=false) rfl qg ?_;change OpGoal _ _ _ f w2 Ext _;refine oC #[f 14] Tryz.func19 rfl rfl ?_;rw[q54];refine(copyAll_calls _ xl _ (HT.out.ext (EE.trans hE)) (by have:=XN.out;omega) X2.out).mono ?_;rintro e w' ⟨v',rfl,h1,h2⟩;exact⟨v',rfl,h2,h1⟩
    ·intro f w2 hG hp hl;have hE:Ext w12 w2:=hG;have hS:=hE.size;have q53:=tE hp 0 13 rfl rfl rfl;have q55:=tellV hp 1 15 rfl rfl (fun _=>hE);have qg:=tE hp 3 12 rfl rfl rfl;change OpGoal _ _ _ f w2 Ext _;refine og_guard (j:=12) (want:=false) rfl qg ?_;change OpGoal _ _ _ f w2 Ext _;refine oC #[f 13,f 15] Tryz.func39 rfl rfl ?_;rw[q53];refine(holds_calls 6 6 _ _ C X _ (GA.out _ _ (CE6.out.ext hE)) (TQ.out _ _ q55) (by have:=LA.out;omega)).mono ?_;rintro e w' ⟨rfl,h2⟩
     exact⟨_,rfl,h2,by rw[HD.out]<;>rfl⟩
    ·intro f w2 hG hp hl;have hE:Ext w12 w2:=hG;have qg:=tE hp 0 12 rfl rfl rfl;change OpGoal _ _ _ f w2 Ext _;refine og_guard (j:=12) (want:=false) rfl qg ?_;change OpGoal _ _ _ f w2 Ext _;exact og_load (P:=Tryz.prog) _ _ w.heap.size _ _ _ rfl rfl rfl (P.ext hE) Tryz.underlying36 rfl (by kernel_rfl) rfl
    ·intro f w2 hG hp hl;have qg:=tE hp 0 12 rfl rfl rfl;change OpGoal _ _ _ f w2 Ext _;refine og_guard (j:=12) (want:=false) rfl qg ?_;simp only[OpGoal];go_simp;exact⟨_,rfl,Ext.refl _,rfl⟩
    ·intro f w2 hG hp hl;have hE:Ext w12 w2:=hG;have hS:=hE.size;have q57:=tE hp 0 17 rfl rfl rfl;have q58:=tE hp 1 18 rfl rfl rfl;have qg:=tE hp 3 12 rfl rfl rfl;change OpGoal _ _ _ f w2 Ext _;refine og_guard (j:=12) (want:=false) rfl qg ?_;change OpGoal _ _ _ f w2 Ext _;refine oC #[f 17,f 18] Tryz.func40 rfl rfl ?_;rw[q57,q58];refine(holds11_calls 6 _ _ C X _ (FA.out _ (EE.trans hE)) (TX.out _ (EE.trans hE)) (by omega) (by have:=LA.out;omega) (by have:=XL.out;omega)).mono ?_;rintro e w' ⟨rfl,h2⟩
     exact⟨_,rfl,h2,by rw[HD.out]<;>rfl⟩
    ·intro f w2 hG hp hl;have q56:=tE hp 0 16 rfl rfl rfl;have q59:=tE hp 1 19 rfl rfl rfl;have qg:=tE hp 2 12 rfl rfl rfl;change OpGoal _ _ _ f w2 Ext _;refine og_guard (j:=12) (want:=false) rfl qg ?_
     cases da<;>(simp only[OpGoal];go_simp;exact⟨_,rfl,Ext.refl _,rfl⟩)
    ·intro f w2 hG hp hl;have q52:=tE hp 0 12 rfl rfl rfl;have q60:=tE hp 1 20 rfl rfl rfl;simp only[OpGoal];go_simp;exact⟨_,rfl,Ext.refl _,rfl⟩
    ·intro f w2 hG hp hl;have q61:=tE hp 0 21 rfl rfl rfl;simp only[OpGoal];go_simp;exact⟨_,rfl,Ext.refl _,rfl⟩
    ·intro f w2 hG hp hl;have qg:=tE hp 0 22 rfl rfl rfl;change OpGoal _ _ _ f w2 Ext _;refine og_guard (j:=22) (want:=false) rfl qg ?_;simp only[OpGoal];go_simp;exact⟨_,rfl,Ext.refl _,rfl⟩
    ·intro f w2 hG hp hl;have qg:=tE hp 0 22 rfl rfl rfl;change OpGoal _ _ _ f w2 Ext _;refine og_guard (j:=22) (want:=false) rfl qg ?_;simp only[OpGoal];go_simp;exact⟨_,rfl,Ext.refl _,rfl⟩
    ·intro f w2 hG hp hl;have q63:=tE hp 0 23 rfl rfl rfl;have q64:=tE hp 1 24 rfl rfl rfl;have qg:=tE hp 2 22 rfl rfl rfl;change OpGoal _ _ _ f w2 Ext _;refine og_guard (j:=22) (want:=false) rfl qg ?_;simp only[OpGoal];go_simp;exact⟨_,rfl,Ext.refl _,rfl⟩
    ·intro f w2 hG hp hl;have q62:=tE hp 0 22 rfl rfl rfl;have q65:=tE hp 1 25 rfl rfl rfl;simp only[OpGoal];go_simp;exact⟨_,rfl,Ext.refl _,rfl⟩
   ·intro f w13 hG hp;have hE:Ext w12 w13:=ChgS.nil hG
    have q66:f 26= .bool false:=endV hp 26 (by decide) rfl (fun h=>by cases h)
    try simp only[q66]
    clear hp;have hX:Ext w12 w13:=hG.nil;have E13:=EE.trans hX;have P13:=P.ext hX;have K13:=K.ext hX;have F13:=F.ext hX;have M13:=M.ext hX;have T13:=B12.ext hX;have CE13:=Lib.hid (CE6.out.ext hX);have FG13:=Lib.hid (FG.out.ext hX);have RE13:=Lib.hid (RE.out.ext hX);have RS13:=Lib.hid (RS.out.ext hX);have RB13:=Lib.hid (RB.out.ext hX);have NN13:=Lib.hid (NN.out.trans hX);clear hG hX EE P K F M B12 CE6 FE FG RE RS RB NN;have hm0:=M13.cell 0;have hm1:=M13.cell 1;have hm2:=M13.cell 2;have hm3:=M13.cell 3;have hm4:=M13.cell 4;have ht0:=T13.cell 0;have ht1:=T13.cell 1;have ht2:=T13.cell 2;have ht3:=T13.cell 3;have ht4:=T13.cell 4;go_wp2_with fail;refine(sameCons_true _ _ (fmC (roundV C)) w13 RE13.out RB13.out).mono ?_;rintro e w14 ⟨rfl,e14⟩;have F14:=F13.ext e14;clear hm0 hm1 hm2 hm3 hm4 ht0 ht1 ht2 ht3 ht4;have hf0:=F14.cell 0;have hf1:=F14.cell 1;have hf2:=F14.cell 2;have hf3:=F14.cell 3;have hf4:=F14.cell 4;go_wp2_with fail;refine(spoilCons_calls _ _ w14 (FG13.out.ext e14)).mono ?_;rintro e w15 ⟨rfl,h15⟩;have M15:=(M13.ext e14).hurtW h15 (by decide) (by decide);have N15:Ext w7 w15:=(NN13.out.trans e14).hurtW h15 (fun k hk=>hk.1);have E15:Ext w w15:=(E13.trans e14).hurtW h15 (fun k hk=>by have:=hk.1;have:=E13.size;omega);have R15:=Lib.hid ((RS13.out.ext e14).hurtW h15);have P15:=(P13.ext e14).hurtW h15 (by decide) (by decide);have K15:=(K13.ext e14).hurtW h15 (by decide) (by decide);clear hf0 hf1 hf2 hf3 hf4 F14 h15
    have hm0:=M15.cell 0;have hm1:=M15.cell 1;have hm2:=M15.cell 2;have hm3:=M15.cell 3;have hm4:=M15.cell 4;go_wp2_with fail;refine(spoilCons_calls _ _ w15 R15.out).mono ?_;rintro e w16 ⟨rfl,h16⟩;have N16:Ext w7 w16:=N15.hurtW h16 (fun k hk=>by have:=hk.1;omega);have E16:Ext w w16:=E15.hurtW h16 (fun k hk=>by have:=hk.1;have:=E13.size;omega);have P16:=P15.hurtW h16 (by decide) (by decide);have K16:=K15.hurtW h16 (by decide) (by decide);clear hm0 hm1 hm2 hm3 hm4 h16;have hp0:=P16.cell 0;have hp1:=P16.cell 1;have hp2:=P16.cell 2;have hp3:=P16.cell 3;have hp4:=P16.cell 4;have hk0:=K16.cell 0;have hk1:=K16.cell 1;have hk2:=K16.cell 2;have hk3:=K16.cell 3;have hk4:=K16.cell 4;go_wp2_with fail;refine(sameCons_true _ _ c w16 (C7K.out.ext N16) (HV.out.ext E16)).mono ?_;rintro e w17 ⟨rfl,e17⟩;go_wp2;go_ret;exact⟨rfl,E16.trans e17⟩
  ·have hz9:=hrd.2 h0;have hz11:=hno h0;unfold zeroC at hz9
   cases hz9
   subst hz11
   have hz0:(cd !=0)=true:=by rw[bne_iff_ne];exact h0
   have hz1:(cd==0)=false:=by simpa using h0
   have hz2:(cd !=cd)=false:=by simp
   have HN0:=Lib.hid h0;unfold zeroC;obtain⟨w12,hw12,e12,B12,s12⟩:=alloc1 w11 #[.int .i64 0,.slice none 0 0,.bool false,.slice none 0 0,.slice none 0 0] 36;have h1012:=e11.trans e12;have EE:=E10.trans h1012;have P:=P10.ext h1012;have K:=K10.ext h1012;have F:=B10.ext h1012;have M:=ba9.ext h1012;have CE6:=Lib.hid (C10.out.ext h1012);have FE:=Lib.hid (F10.out.ext h1012);clear hrd hok hno hp0 hp1 hp2 hp3 hp4 E10 P10 K10 B10 ba9 C10 F10 G10 N10 e11 e12 h1012 h0;go_wp2_with fail;rw[←hw12];clear hw12;refine wpQ [PP.val (.agg #[.int .i64 (formC C).1,.slice a8 n8 p8,.bool b8,.slice a18 n18 c18,.slice a28 n28 c28]),PP.val (.agg #[.int .i64 c.1,.slice ax nx px,.bool bbx,.slice a1x n1x c1x,.slice a2x n2x c2x]),PP.cnO 211 (formC C),PP.val (.bool true),PP.val (.bool false),PP.val (.bool false),PP.val (.agg #[.int .i64 c.1,.slice a6 n6 p6,.bool b6,.slice a16 n16 c16,.slice a26 n26 c26]),PP.val (.bool fa),PP.val (.agg #[.int .i64 c.1,.slice ax nx px,.bool bbx,.slice a1x n1x c1x,.slice a2x n2x c2x]),PP.val (.bool fa),PP.val (.bool false),PP.val (.bool false),PP.val (.bool false),PP.val (.agg #[.int .i64 c.1,.slice a6 n6 p6,.bool b6,.slice a16 n16 c16,.slice a26 n26 c26]),PP.val (t),PP.slq xl,PP.val (.bool da),PP.val (.agg #[.int .i64 c.1,.slice ax nx px,.bool bbx,.slice a1x n1x c1x,.slice a2x n2x c2x]),PP.val (t),PP.val (.bool da),PP.val (.bool false),PP.val (.bool false),PP.val (.bool false),PP.val (.int .i64 cd),PP.val (.int .i64 cd),PP.val (.bool false),PP.val (.bool false)] [] [0,1,2,3,4,5,6,7,8,9,10,11,12,13,14,15,16,17,18,19,20,21,22,23,24,25,26] ?_ ?_
   ·refine⟨?_,?_,?_,?_,?_,?_,?_,?_,?_,?_,?_,?_,?_,?_,?_,?_,?_,?_,?_,?_,?_,?_,?_,?_,?_,?_,?_,trivial⟩
    ·intro f w2 hG hp hl;have hE:Ext w12 w2:=hG;change OpGoal _ _ _ f w2 Ext _;exact og_load (P:=Tryz.prog) _ _ w8.heap.size _ _ _ rfl rfl rfl (F.ext hE) Tryz.underlying36 rfl (by kernel_rfl) rfl
    ·intro f w2 hG hp hl;have hE:Ext w12 w2:=hG;change OpGoal _ _ _ f w2 Ext _;exact og_load (P:=Tryz.prog) _ _ w.heap.size _ _ _ rfl rfl rfl (P.ext hE) Tryz.underlying36 rfl (by kernel_rfl) rfl
    ·intro f w2 hG hp hl;have hE:Ext w12 w2:=hG;have hS:=hE.size;have q41:=tE hp 0 1 rfl rfl rfl;change OpGoal _ _ _ f w2 Ext _;refine oC #[f 1] Tryz.func37 rfl rfl ?_;rw[q41];refine(form11_calls 6 211 _ C _ (FA.out _ (EE.trans hE)) (by have:=LA.out;omega) (by omega) (by have:=LA.out;omega) (by omega)).mono ?_;rintro e w' ⟨v',rfl,h1,h2⟩;exact⟨v',rfl,h2,h1.mono hS⟩
    ·intro f w2 hG hp hl;have hE:Ext w12 w2:=hG;have hS:=hE.size;have q40:=tE hp 0 0 rfl rfl rfl;have q42:=tellV hp 1 2 rfl rfl (fun _=>hE);change OpGoal _ _ _ f w2 Ext _;refine oC #[f 0,f 2] Tryz.func23 rfl rfl ?_;rw[q40];refine(sameCons_true _ _ (fmC (formC C)) _ (FE.out.ext hE) (CnO.cnE q42 (by omega))).mono ?_;rintro e w' ⟨rfl,h2⟩;exact⟨_,rfl,h2,rfl⟩
    ·intro f w2 hG hp hl;have q43:=tE hp 0 3 rfl rfl rfl;simp only[OpGoal];go_simp;exact⟨_,rfl,Ext.refl _,rfl⟩
    ·intro f w2 hG hp hl;have q44:=tE hp 0 4 rfl rfl rfl;simp only[OpGoal];go_simp;exact⟨_,rfl,Ext.refl _,rfl⟩
    ·intro f w2 hG hp hl;have hE:Ext w12 w2:=hG;have qg:=tE hp 0 5 rfl rfl rfl;change OpGoal _ _ _ f w2 Ext _;refine og_guard (j:=5) (want:=false) rfl qg ?_;change OpGoal _ _ _ f w2 Ext _;exact og_load (P:=Tryz.prog) _ _ w6.heap.size _ _ _ rfl rfl rfl (K.ext hE) Tryz.underlying36 rfl (by kernel_rfl) rfl
    ·intro f w2 hG hp hl;have hE:Ext w12 w2:=hG;have hS:=hE.size;have q46:=tE hp 0 6 rfl rfl rfl;have qg:=tE hp 1 5 rfl rfl rfl;change OpGoal _ _ _ f w2 Ext _;refine og_guard (j:=5) (want:=false) rfl qg ?_;change OpGoal _ _ _ f w2 Ext _;refine oC #[f 6] Tryz.func38 rfl rfl ?_;rw[q46];refine(cfalse_calls 6 _ C _ (GA.out _ _ (CE6.out.ext hE)) (by have:=LA.out;omega) (by have:=LA.out;omega)).mono ?_;rintro e w' ⟨rfl,h2⟩
     exact⟨_,rfl,h2,by rw[HF.out]<;>rfl⟩
    ·intro f w2 hG hp hl;have hE:Ext w12 w2:=hG;have qg:=tE hp 0 5 rfl rfl rfl;change OpGoal _ _ _ f w2 Ext _;refine og_guard (j:=5) (want:=false) rfl qg ?_;change OpGoal _ _ _ f w2 Ext _;exact og_load (P:=Tryz.prog) _ _ w.heap.size _ _ _ rfl rfl rfl (P.ext hE) Tryz.underlying36 rfl (by kernel_rfl) rfl
    ·intro f w2 hG hp hl;have hE:Ext w12 w2:=hG;have hS:=hE.size;have q48:=tE hp 0 8 rfl rfl rfl;have qg:=tE hp 2 5 rfl rfl rfl;change OpGoal _ _ _ f w2 Ext _;refine og_guard (j:=5) (want:=false) rfl qg ?_;change OpGoal _ _ _ f w2 Ext _;refine oC #[f 8] Tryz.func32 rfl rfl ?_;rw[q48];refine(false11_calls 6 _ C _ (FA.out _ (EE.trans hE)) (by omega) (by have:=LA.out;omega)).mono ?_;rintro e w' ⟨rfl,h2⟩
     exact⟨_,rfl,h2,by rw[HF.out]<;>rfl⟩
    ·intro f w2 hG hp hl;have q47:=tE hp 0 7 rfl rfl rfl;have q49:=tE hp 1 9 rfl rfl rfl;have qg:=tE hp 2 5 rfl rfl rfl;change OpGoal _ _ _ f w2 Ext _;refine og_guard (j:=5) (want:=false) rfl qg ?_
     cases fa<;>(simp only[OpGoal];go_simp;exact⟨_,rfl,Ext.refl _,rfl⟩)
    ·intro f w2 hG hp hl;have q45:=tE hp 0 5 rfl rfl rfl;have q50:=tE hp 1 10 rfl rfl rfl;simp only[OpGoal];go_simp;exact⟨_,rfl,Ext.refl _,rfl⟩
    ·intro f w2 hG hp hl;have q51:=tE hp 0 11 rfl rfl rfl;simp only[OpGoal];go_simp;exact⟨_,rfl,Ext.refl _,rfl⟩
    ·intro f w2 hG hp hl;have hE:Ext w12 w2:=hG;have qg:=tE hp 0 12 rfl rfl rfl;change OpGoal _ _ _ f w2 Ext _;refine og_guard (j:=12) (want:=false) rfl qg ?_;change OpGoal _ _ _ f w2 Ext _;exact og_load (P:=Tryz.prog) _ _ w6.heap.size _ _ _ rfl rfl rfl (K.ext hE) Tryz.underlying36 rfl (by kernel_rfl) rfl
    ·intro f w2 hG hp hl;have qg:=tE hp 0 12 rfl rfl rfl;change OpGoal _ _ _ f w2 Ext _;refine og_guard (j:=12) (want:=false) rfl qg ?_;simp only[OpGoal];go_simp;exact⟨_,rfl,Ext.refl _,rfl⟩
    ·intro f w2 hG hp hl;have hE:Ext w12 w2:=hG;have hS:=hE.size;have q54:=tE hp 0 14 rfl rfl rfl;have qg:=tE hp 1 12 rfl rfl rfl;change OpGoal _ _ _ f w2 Ext _;refine og_guard (j:=12) (want:=false) rfl qg ?_;change OpGoal _ _ _ f w2 Ext _;refine oC #[f 14] Tryz.func19 rfl rfl ?_;rw[q54];refine(copyAll_calls _ xl _ (HT.out.ext (EE.trans hE)) (by have:=XN.out;omega) X2.out).mono ?_;rintro e w' ⟨v',rfl,h1,h2⟩;exact⟨v',rfl,h2,h1⟩
    ·intro f w2 hG hp hl;have hE:Ext w12 w2:=hG;have hS:=hE.size;have q53:=tE hp 0 13 rfl rfl rfl;have q55:=tellV hp 1 15 rfl rfl (fun _=>hE);have qg:=tE hp 3 12 rfl rfl rfl;change OpGoal _ _ _ f w2 Ext _;refine og_guard (j:=12) (want:=false) rfl qg ?_;change OpGoal _ _ _ f w2 Ext _;refine oC #[f 13,f 15] Tryz.func39 rfl rfl ?_;rw[q53];refine(holds_calls 6 6 _ _ C X _ (GA.out _ _ (CE6.out.ext hE)) (TQ.out _ _ q55) (by have:=LA.out;omega)).mono ?_;rintro e w' ⟨rfl,h2⟩
     exact⟨_,rfl,h2,by rw[HD.out]<;>rfl⟩
    ·intro f w2 hG hp hl;have hE:Ext w12 w2:=hG;have qg:=tE hp 0 12 rfl rfl rfl;change OpGoal _ _ _ f w2 Ext _;refine og_guard (j:=12) (want:=false) rfl qg ?_;change OpGoal _ _ _ f w2 Ext _;exact og_load (P:=Tryz.prog) _ _ w.heap.size _ _ _ rfl rfl rfl (P.ext hE) Tryz.underlying36 rfl (by kernel_rfl) rfl
    ·intro f w2 hG hp hl;have qg:=tE hp 0 12 rfl rfl rfl;change OpGoal _ _ _ f w2 Ext _;refine og_guard (j:=12) (want:=false) rfl qg ?_;simp only[OpGoal];go_simp;exact⟨_,rfl,Ext.refl _,rfl⟩
    ·intro f w2 hG hp hl;have hE:Ext w12 w2:=hG;have hS:=hE.size;have q57:=tE hp 0 17 rfl rfl rfl;have q58:=tE hp 1 18 rfl rfl rfl;have qg:=tE hp 3 12 rfl rfl rfl;change OpGoal _ _ _ f w2 Ext _;refine og_guard (j:=12) (want:=false) rfl qg ?_;change OpGoal _ _ _ f w2 Ext _;refine oC #[f 17,f 18] Tryz.func40 rfl rfl ?_;rw[q57,q58];refine(holds11_calls 6 _ _ C X _ (FA.out _ (EE.trans hE)) (TX.out _ (EE.trans hE)) (by omega) (by have:=LA.out;omega) (by have:=XL.out;omega)).mono ?_;rintro e w' ⟨rfl,h2⟩
     exact⟨_,rfl,h2,by rw[HD.out]<;>rfl⟩
    ·intro f w2 hG hp hl;have q56:=tE hp 0 16 rfl rfl rfl;have q59:=tE hp 1 19 rfl rfl rfl;have qg:=tE hp 2 12 rfl rfl rfl;change OpGoal _ _ _ f w2 Ext _;refine og_guard (j:=12) (want:=false) rfl qg ?_
     cases da<;>(simp only[OpGoal];go_simp;exact⟨_,rfl,Ext.refl _,rfl⟩)
    ·intro f w2 hG hp hl;have q52:=tE hp 0 12 rfl rfl rfl;have q60:=tE hp 1 20 rfl rfl rfl;simp only[OpGoal];go_simp;exact⟨_,rfl,Ext.refl _,rfl⟩
    ·intro f w2 hG hp hl;have q61:=tE hp 0 21 rfl rfl rfl;simp only[OpGoal];go_simp;exact⟨_,rfl,Ext.refl _,rfl⟩
    ·intro f w2 hG hp hl;have qg:=tE hp 0 22 rfl rfl rfl;change OpGoal _ _ _ f w2 Ext _;refine og_guard (j:=22) (want:=false) rfl qg ?_;simp only[OpGoal];go_simp;exact⟨_,rfl,Ext.refl _,rfl⟩
    ·intro f w2 hG hp hl;have qg:=tE hp 0 22 rfl rfl rfl;change OpGoal _ _ _ f w2 Ext _;refine og_guard (j:=22) (want:=false) rfl qg ?_;simp only[OpGoal];go_simp;exact⟨_,rfl,Ext.refl _,rfl⟩
    ·intro f w2 hG hp hl;have q63:=tE hp 0 23 rfl rfl rfl;have q64:=tE hp 1 24 rfl rfl rfl;have qg:=tE hp 2 22 rfl rfl rfl;change OpGoal _ _ _ f w2 Ext _;refine og_guard (j:=22) (want:=false) rfl qg ?_;simp only[OpGoal];go_simp;exact⟨_,rfl,Ext.refl _,rfl⟩
    ·intro f w2 hG hp hl;have q62:=tE hp 0 22 rfl rfl rfl;have q65:=tE hp 1 25 rfl rfl rfl;simp only[OpGoal];go_simp;exact⟨_,rfl,Ext.refl _,rfl⟩
   ·intro f w13 hG hp;have hE:Ext w12 w13:=ChgS.nil hG
    have q66:f 26= .bool false:=endV hp 26 (by decide) rfl (fun h=>by cases h)
    try simp only[q66]
    clear hp;have hX:Ext w12 w13:=hG.nil;have E13:=EE.trans hX;have M13:=M.ext hX;clear hG hX EE P K F M B12 CE6 FE;have hm0:=M13.cell 0;have hm1:=M13.cell 1;have hm2:=M13.cell 2;have hm3:=M13.cell 3;have hm4:=M13.cell 4;go_wp2_with fail;refine(rqsame3_calls _ _ false false [] [] [] [] w13 (rawq_none _) (rawq_none _)).mono ?_;rintro e w14 ⟨rfl,e14⟩;go_wp2;go_ret;exact⟨rfl,E13.trans e14⟩
section
variable {H:Type} {enc:TypeId×Value→H} {w:World} {base:Nat} {spare:Nat→Bool} {held:Bool}
theorem bytesB:Tryz.prog.bytesOf 4=1:=by kernel_rfl
theorem open_boolsL{v:Value}{d:DataW H}{p:List MemPlace}{W0:World}{b0:Nat}(hv:Value.okWide Tryz.prog W0 .any b0 48 v)(h:DataW.Trod enc Tryz.prog w base spare held 48 v d p)(B:Nat)(hb:B≤4611686018427387903)(hB:∀n∈d.weights Tryz.prog 48,n≤B):
  ∃l,BL w v l∧l.length*Tryz.prog.bytesOf 4≤B:=by
 obtain⟨a,n,c,rfl⟩:=okWide_slice Tryz.underlying48 hv;obtain⟨fuel,hf⟩:=h
 obtain⟨v',ys,h1,h2,h3, -⟩:=open_ones (R:=fun _ v b=>v= .bool b) (F:=fun _ _=>True) B Tryz.underlying48 cellsB (fun fuel v x hw hx=>by
  obtain⟨b,hb⟩:=open_bool1 hx
  cases hb
  exact⟨b,rfl,trivial⟩) hB hf
 have hcs:(Value.slice a n c).cells.toList=[Value.slice a n c]:=rfl
 rw[hcs]at h1
 cases h1
 exact⟨ys,h2,h3⟩
end
end Go.Proofs.YtokfaggcojokgaaGreat
