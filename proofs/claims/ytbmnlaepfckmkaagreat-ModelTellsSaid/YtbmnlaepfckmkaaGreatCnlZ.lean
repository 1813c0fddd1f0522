/-
 The law ConsCombines.
-/
import Derived.Test.YtbmnlaepfckmkaaGreatCnhZ
import Derived.Test.YtbmnlaepfckmkaaGreatCmaZ
import Derived.Test.YtbmnlaepfckmkaaGreatComZ
import Derived.Deep.AppendSrc
import Derived.Test.YtbmnlaepfckmkaaGreatCnaZ
import Derived.Test.YtbmnlaepfckmkaaGreatVfcZ
namespace Go.Proofs.YtbmnlaepfckmkaaGreat
set_option maxRecDepth 100000
set_option maxHeartbeats 1000000
open Go.RowKit
set_option linter.unusedVariables false
set_option linter.unusedSimpArgs false
def ZChg(S:Nat)(T:List (TypeId×Array Value))(w1 w2:World):Prop:=∃g t old cs,S≤g∧(t,old)∈T∧Bx t w1 g old∧Bx t w2 g cs∧Chg g w1 w2
structure PZ (S:Nat) (T:List (TypeId×Array Value)) where
 p:Value→World→Prop
 m:∀v w1 w2,Ext w1 w2→p v w1→p v w2
 m3:∀v w1 w2,ZChg S T w1 w2→p v w1→p v w2
def PZ.val{S:Nat}{T:List (TypeId×Array Value)}(v:Value):PZ S T:=⟨fun u _=>u=v,fun _ _ _ _ h=>h,fun _ _ _ _ h=>h⟩
def PZ.any{S:Nat}{T:List (TypeId×Array Value)}:PZ S T:=⟨fun _ _=>True,fun _ _ _ _ h=>h,fun _ _ _ _ h=>h⟩
def TZ(als:List Al):List (TypeId×Array Value):=als.map fun x=>(x.t,x.z)
structure Sz (S:Nat) (T:List (TypeId×Array Value)) where
 s:Nat
 x:Al
 F:PZ S T
def szAt{S:Nat}{T:List (TypeId×Array Value)}:List (Sz S T)→Nat→Option (Sz S T)
 | [],_=>none
 |x::l,k=>if k=x.s then some x else szAt l k
theorem szAt_mem{S:Nat}{T:List (TypeId×Array Value)}{l:List (Sz S T)}{k:Nat}{x:Sz S T}(h:szAt l k=some x):x∈l∧x.s=k:=by
 induction l with
 |nil=>cases h
 |cons y l ih=>
  simp only[szAt]at h
  split at h
  ·cases h;exact⟨List.mem_cons_self ..,by omega⟩
  ·exact⟨List.mem_cons_of_mem _ (ih h).1,(ih h).2⟩
structure JZ {S:Nat} {T:List (TypeId×Array Value)} (als:List Al) (sas:List (Sz S T)) (listed:Nat→Bool) (f:Nat→Value) (w:World):Prop where
 made:∀x∈als,listed x.a=true→∃g cs,f x.a= .pointer (some ⟨g,0,none⟩)∧S≤g∧Bx x.t w g cs∧cs.size=x.n∧((∀y∈sas,y.x.a=x.a→listed y.s=false)→cs=x.z)
 apart:∀x∈als,∀y∈als,x.a≠y.a→listed x.a=true→listed y.a=true→f x.a≠f y.a
 put:∀y∈sas,listed y.s=true→listed y.x.a=true∧∃g cs,f y.x.a= .pointer (some ⟨g,0,none⟩)∧Bx y.x.t w g cs∧y.F.p (.agg cs) w
def postZ{S:Nat}{T:List (TypeId×Array Value)}(als:List Al)(sas:List (Sz S T))(L:List (PZ S T))(j:Nat)(v:Value)(w:World):Prop:=alAt als j=none→szAt sas j=none→(L.getD j PZ.any).p v w
def OweZ{S:Nat}{T:List (TypeId×Array Value)}(P:Program)(fr:(Nat→Value)→Array Value)(df:List Deferred)(w:World)(als:List Al)(sas:List (Sz S T))(L:List (PZ S T))(k:Nat)(o:Oper):Prop:=
 ∀f w1,Ext w w1→PostsOf (postZ als sas L) f w1 o.after.toList→
  match alAt als k with
  |some x=>OpGoal P o ⟨fr f,df⟩ f w1 (fun a b=>b=a.alloc (.cells x.z x.t)) (fun v _=>v= .pointer (some ⟨w1.heap.size,0,none⟩))
  |none=>match szAt sas k with
   |some y=>∀g,f y.x.a= .pointer (some ⟨g,0,none⟩)→S≤g→Bx y.x.t w1 g y.x.z→
     OpGoal P o ⟨fr f,df⟩ f w1 (Chg g) (fun _ w2=>∃cs,Bx y.x.t w2 g cs∧cs.size=y.x.n∧y.F.p (.agg cs) w2)
   |none=>OpGoal P o ⟨fr f,df⟩ f w1 Ext (L.getD k PZ.any).p
def OwesZ{S:Nat}{T:List (TypeId×Array Value)}(P:Program)(fr:(Nat→Value)→Array Value)(df:List Deferred)(w:World)(als:List Al)(sas:List (Sz S T))(L:List (PZ S T)):List Oper→Nat→Prop
 | [],_=>True
 |o::l,k=>OweZ P fr df w als sas L k o∧OwesZ P fr df w als sas L l (k+1)
theorem owesZ_at{S:Nat}{T:List (TypeId×Array Value)}{P:Program}{fr:(Nat→Value)→Array Value}{df:List Deferred}{w:World}{als:List Al}{sas:List (Sz S T)}{L:List (PZ S T)}:
  ∀(l:List Oper) (k:Nat),OwesZ P fr df w als sas L l k→∀i o,l[i]? =some o→OweZ P fr df w als sas L (k+i) o
 | [],_,_,i,o,h=>by simp at h
 |x::l,k,hs,i,o,h=>by
  cases i with
  |zero=>
   simp only[List.getElem?_cons_zero,Option.some.injEq]at h;subst h;exact hs.1
  |succ i=>
   have:=owesZ_at l (k+1) hs.2 i o (by simpa using h)
   rwa [show k+1+i=k+(i+1)by omega]at this
theorem tellZ{S:Nat}{T:List (TypeId×Array Value)}{w1:World}{als:List Al}{sas:List (Sz S T)}{L:List (PZ S T)}{f:Nat→Value}{l:List Edge}(hp:PostsOf (postZ als sas L) f w1 l)(n j:Nat)
  (h:(match l[n]? with |some e=>Region.binds .any e&&e.on==j |none=>false)=true) (ha:alAt als j=none) (hs:szAt sas j=none):(L.getD j PZ.any).p (f j) w1:=
 postsOf_nth l n j h hp ha hs
theorem wp_region_alz{P:Program}{id:Nat}{l:List Oper}{Q:Exit→Act→World→Prop}{tmps:Array Value}{df:List Deferred}{w:World}{fr:(Nat→Value)→Array Value}
  (als:List Al) (sas:List (Sz w.heap.size (TZ als))) (L:List (PZ w.heap.size (TZ als)))
  (hm:P.follows .mixedOrders=true) (hok:(regOk l.toArray tmps.size&&sas.all fun y=>ancOk l.toArray [y.s] [y.x.a]&&y.s !=y.x.a)=true)
  (hfr:∀f,fillR l.toArray tmps f=fr f)
  (hal:∀x∈als,alAt als x.a=some x∧szAt sas x.a=none∧x.z.size=x.n)
  (hsa:∀y∈sas,szAt sas y.s=some y∧alAt als y.s=none∧y.x∈als) (hsa2:∀y∈sas,∀z∈sas,y.s≠z.s→y.x.a≠z.x.a)
  (hstep:OwesZ P fr df w als sas L l 0)
  (hend:∀f w1,Ext w w1→AllPosts (postZ als sas L) f w1 l.length 0→
   (∀x∈als,x.a<l.length→∃g cs,f x.a= .pointer (some ⟨g,0,none⟩)∧w.heap.size≤g∧Bx x.t w1 g cs∧cs.size=x.n∧∀y∈sas,y.s<l.length→y.x.a=x.a→y.x.t=x.t→y.F.p (.agg cs) w1)→Q .normal ⟨fr f,df⟩ w1):
  (Code.region id l.toArray true).wp P Q ⟨tmps,df⟩ w:=by
 simp only[Bool.and_eq_true]at hok;obtain⟨hok1,hok2⟩:=hok
 let R:Nat→World→World→Prop:=fun i w1 w2=>if (alAt als i).isSome=true∨(szAt sas i).isSome=false then Ext w1 w2 else ZChg w.heap.size (TZ als) w1 w2
 have zchgExt:∀{w1 w2:World},Ext w w1→ZChg w.heap.size (TZ als) w1 w2→Ext w w2:=by
  rintro w1 w2 h ⟨g,t,cs,cs',hg,_,_,_,hch⟩;exact h.step hch hg
 refine wp_region_posts (D:=JZ als sas) (G:=Ext) (G0:=fun _ _ _=>True) (R:=R) (post:=postZ als sas L) hm hok1 ?_ (Ext.refl w).drew (fun _=>trivial) ?_ (fun _ _ _ _ _ _ _=>trivial) ?_ ?_ ?_
 ·intro f;exact⟨fun x hx h=>(by cases h),fun x hx y hy hne h=>(by cases h),fun y hy h=>(by cases h)⟩
 ·intro i w1 w2 hG hR
  by_cases hc:(alAt als i).isSome=true∨(szAt sas i).isSome=false
  ·simp only[R,hc,if_true]at hR;exact hG.trans hR
  ·simp only[R,hc,if_false]at hR;exact zchgExt hG hR
 ·intro i j v w1 w2 hij hG hR hp ha hs
  by_cases hc:(alAt als j).isSome=true∨(szAt sas j).isSome=false
  ·simp only[R,hc,if_true]at hR;exact(L.getD i PZ.any).m _ _ _ hR (hp ha hs)
  ·simp only[R,hc,if_false]at hR;exact(L.getD i PZ.any).m3 _ _ _ hR (hp ha hs)
 ·intro i o ho listed f w1 hil hbef hD hG _ hp _;have hO:=owesZ_at l 0 hstep i o (by simpa using ho);rw[Nat.zero_add]at hO;rw[hfr]
  have unl:∀j,(if j=i then true else listed j)=false→listed j=false:=fun j h=>by
   by_cases hj:j=i
   ·rw[if_pos hj]at h;cases h
   ·rwa [if_neg hj]at h
  have hg:=hO f w1 hG (postsOf_of _ fun e he hb=>hp e (Array.mem_toList_iff.1 he) hb);clear hO
  cases ha:alAt als i with
  |some x=>
   simp only[ha]at hg;have hxm:=(alAt_mem ha).1;have hxa:=(alAt_mem ha).2;have hxl:=hal x hxm;refine OpGoal.mono2 ?_ (fun h=>by cases h) hg;rintro v w' rfl rfl;have hext:Ext w1 (w1.alloc (.cells x.z x.t)):=(Ext.refl w1).alloc _;refine⟨by simp only[R,ha,Option.isSome_some,true_or,if_true];exact hext,fun h=>by simp[ha]at h,?_,?_,?_⟩
   ·intro x' hx' hl'
    by_cases hi:x'.a=i
    ·have:x'=x:=by
      have h1:=(hal x' hx').1;rw[hi,ha]at h1;exact(Option.some.inj h1).symm
     subst this;exact⟨w1.heap.size,x'.z,by simp[hi],hG.size,Bx.new w1 x'.t x'.z,hxl.2.2,fun _=>rfl⟩
    ·simp only[hi,if_false]at hl' ⊢;obtain⟨g,cs,h1,h2,h3,h4,h5⟩:=hD.made x' hx' hl';exact⟨g,cs,h1,h2,h3.ext hext,h4,fun hn=>h5 fun y hy hyx=>unl _ (hn y hy hyx)⟩
   ·intro x' hx' y' hy' hne hlx hly
    have old:∀z∈als,z.a≠i→listed z.a=true→f z.a≠ .pointer (some ⟨w1.heap.size,0,none⟩):=by
     intro z hz hzi hlz h;obtain⟨g,cs,h1,h2,h3,h4⟩:=hD.made z hz hlz;rw[h1]at h
     have:=h3.lt
     simp only[Value.pointer.injEq,Option.some.injEq,Addr.mk.injEq,and_true]at h
     omega
    by_cases h1:x'.a=i
    ·have h2:y'.a≠i:=by omega
     simp only[h1,h2,if_true,if_false]at hlx hly ⊢
     exact fun h=>old y' hy' h2 hly h.symm
    ·by_cases h2:y'.a=i
     ·simp only[h1,h2,if_true,if_false]at hlx hly ⊢;exact old x' hx' h1 hlx
     ·simp only[h1,h2,if_false]at hlx hly ⊢;exact hD.apart x' hx' y' hy' hne hlx hly
   ·intro y hy hly
    have hyi:y.s≠i:=by
     intro e
     have:=(hsa y hy).1
     rw[e,←hxa,hxl.2.1]at this
     cases this
    simp only[hyi,if_false]at hly ⊢;obtain⟨hla,g,cs,h1,h2,h3⟩:=hD.put y hy hly
    have hai:y.x.a≠i:=by intro e;rw[e,hil]at hla;cases hla
    simp only[hai,if_false];exact⟨hla,g,cs,h1,h2.ext hext,y.F.m _ _ _ hext h3⟩
  |none=>
   have nota:∀x∈als,x.a≠i:=by
    intro x hx e
    have:=(hal x hx).1
    rw[e,ha]at this
    cases this
   simp only[ha]at hg
   cases hs:szAt sas i with
   |some y=>
    simp only[hs]at hg;have hym:=(szAt_mem hs).1;have hys:=(szAt_mem hs).2;have hyl:=hsa y hym;have hcheck:=List.all_eq_true.1 hok2 y hym;simp only[Bool.and_eq_true]at hcheck
    have hla:listed y.x.a=true:=by
     refine hbef y.x.a (anc_of _ [y.s] (fun j hj=> ?_) hcheck.1 _ (List.mem_singleton.2 rfl)) (nota y.x hyl.2.2)
     have:j=y.s:=by simpa using hj
     rw[this,hys];exact .self
    obtain⟨g,old,h1,h2,h3,h4,h5⟩:=hD.made y.x hyl.2.2 hla
    have hold:old=y.x.z:=h5 fun y' hy' hya=>by
     by_cases he:y'.s=y.s
     ·rw[he,hys];exact hil
     ·exact absurd hya (hsa2 y' hy' y hym he)
    subst hold;have hxl:=hal y.x hyl.2.2
    have key:∀(v:Value) (w':World),Chg g w1 w'→(∃cs,Bx y.x.t w' g cs∧cs.size=y.x.n∧y.F.p (.agg cs) w')→ZChg w.heap.size (TZ als) w1 w'∧JZ als sas (fun j=>if j=i then true else listed j) (fun j=>if j=i then v else f j) w':=by
     rintro v w' hch ⟨cs,k1,k2,k4⟩;have hsc:ZChg w.heap.size (TZ als) w1 w':=⟨g,y.x.t,y.x.z,cs,h2,List.mem_map.2 ⟨y.x,hyl.2.2,rfl⟩,h3,k1,hch⟩;refine⟨hsc,?_,?_,?_⟩
     ·intro x' hx' hl';simp only[nota x' hx',if_false]at hl' ⊢;obtain⟨g',cs',m1,m2,m3,m4,m5⟩:=hD.made x' hx' hl'
      by_cases he:x'.a=y.x.a
      ·have:x'=y.x:=by
        have q1:=(hal x' hx').1;rw[he,hxl.1]at q1;exact(Option.some.inj q1).symm
       subst this;exact⟨g,cs,h1,h2,k1,k2,fun hn=>by have:=hn y hym rfl;simp[hys]at this⟩
      ·have hne:=hD.apart x' hx' y.x hyl.2.2 he hl' hla
       have:g'≠g:=by
        rintro rfl;exact hne (by rw[m1,h1])
       exact⟨g',cs',m1,m2,m3.chg hch this,m4,fun hn=>m5 fun y hy hyx=>unl _ (hn y hy hyx)⟩
     ·intro x' hx' y' hy' hne hlx hly;simp only[nota x' hx',nota y' hy',if_false]at hlx hly ⊢;exact hD.apart x' hx' y' hy' hne hlx hly
     ·intro z hz hlz;simp only[nota z.x (hsa z hz).2.2,if_false]
      by_cases hzi:z.s=i
      ·have:z=y:=by
        have q1:=(hsa z hz).1;rw[hzi,hs]at q1;exact(Option.some.inj q1).symm
       subst this;exact⟨hla,g,cs,h1,k1,k4⟩
      ·simp only[hzi,if_false]at hlz;obtain⟨hlz2,g',cs',m1,m2,m3⟩:=hD.put z hz hlz;have hne:=hD.apart z.x (hsa z hz).2.2 y.x hyl.2.2 (hsa2 z hz y hym (by omega)) hlz2 hla
       have:g'≠g:=by
        rintro rfl;exact hne (by rw[m1,h1])
       exact⟨hlz2,g',cs',m1,m2.chg hch this,z.F.m3 _ _ _ hsc m3⟩
    refine OpGoal.mono2 (fun v w' hch hk=> ?_) (fun h=>⟨fun _ h=>by simp[hs]at h,(key undef w1 (Chg.refl g w1) h).2⟩) (hg g h1 h2 h3);have hk2:=key v w' hch hk;exact⟨by simp only[R,ha,hs,Option.isSome_none,Option.isSome_some,Bool.false_eq_true,false_or,reduceCtorEq,if_false];exact hk2.1,fun _ h=>by simp[hs]at h,hk2.2⟩
   |none=>
    simp only[hs]at hg
    have key:∀v w',Ext w1 w'→JZ als sas (fun j=>if j=i then true else listed j) (fun j=>if j=i then v else f j) w':=by
     intro v w' hext;refine⟨?_,?_,?_⟩
     ·intro x' hx' hl';simp only[nota x' hx',if_false]at hl' ⊢;obtain⟨g',cs',m1,m2,m3,m4,m5⟩:=hD.made x' hx' hl';exact⟨g',cs',m1,m2,m3.ext hext,m4,fun hn=>m5 fun y hy hyx=>unl _ (hn y hy hyx)⟩
     ·intro x' hx' y' hy' hne hlx hly;simp only[nota x' hx',nota y' hy',if_false]at hlx hly ⊢;exact hD.apart x' hx' y' hy' hne hlx hly
     ·intro z hz hlz;simp only[nota z.x (hsa z hz).2.2,if_false]
      have hzi:z.s≠i:=by
       intro e
       have:=(hsa z hz).1
       rw[e,hs]at this
       cases this
      simp only[hzi,if_false]at hlz;obtain⟨hlz2,g',cs',m1,m2,m3⟩:=hD.put z hz hlz;exact⟨hlz2,g',cs',m1,m2.ext hext,z.F.m _ _ _ hext m3⟩
    refine OpGoal.mono2 (fun v w' hext hpv=>⟨by simp only[R,ha,hs,Option.isSome_none,or_true,if_true];exact hext,fun _ _=>hpv,key v w' hext⟩) (fun h=>⟨fun _ _=>h,key undef w1 (Ext.refl w1)⟩) hg
 ·intro f w1 hG hp hj;obtain⟨listed,hall,hD⟩:=hj;rw[hfr]
  refine hend f w1 hG (allPosts_of _ _ fun i _ hi=>hp i (by simpa using hi)) fun x hx hlt=> ?_
  obtain⟨g,cs,m1,m2,m3,m4,_⟩:=hD.made x hx (hall _ (by simpa using hlt));refine⟨g,cs,m1,m2,m3,m4,fun y hy hys hya hyt=> ?_⟩;obtain⟨_,g',cs',n1,n2,n3⟩:=hD.put y hy (hall _ (by simpa using hys));rw[hya,m1]at n1;simp only[Value.pointer.injEq,Option.some.injEq,Addr.mk.injEq,and_true]at n1;subst n1;unfold Bx at n2 m3;rw[hyt,m3]at n2;simp only[Option.some.injEq,Obj.cells.injEq,and_true]at n2;subst n2;exact n3
theorem og_storeZ{P:Program}{o:Oper}{a:Act}{f:Nat→Value}{w:World}{S:Nat}{T:List (TypeId×Array Value)}(F:PZ S T)(n:Nat)(ty:TypeId)(x y:Operand)(g:Nat)(t:TypeId)(old cells:Array Value)(hgd:o.guard=none)(ho:o.op= .store ty x y)(hx:a.eval x= .pointer (some ⟨g,0,none⟩))(hy:a.eval y= .agg cells)
  (hg:Bx t w g old) (hi:(P.info? ty).map (·.size)=some cells.size) (hold:old.size=n) (hn:cells.size=n) (h1:cells.all (·.oneCell')=true) (hSg:S≤g) (hT:(t,old)∈T) (q:F.p (.agg cells) w):
  OpGoal P o a f w (Chg g) (fun _ w2=>∃cs,Bx t w2 g cs∧cs.size=n∧F.p (.agg cs) w2):=by
 unfold OpGoal;rw[hgd];refine wp_store_row ty x y ho g cells hx hy t old hg hi (by omega) h1 ⟨_,rfl,Chg.setRow w g cells,cells,hg.setRow cells,hn,?_⟩;exact F.m3 _ _ _ ⟨g,t,old,cells,hSg,hT,hg,hg.setRow cells,Chg.setRow w g cells⟩ q
def BO(w:World)(u:Value)(bs:List Bool):Prop:=∃ad cap,u= .slice ad bs.length cap∧bs.length≤cap∧cap≤9223372036854775807∧(bs=[]∨∃g cs,ad=some ⟨g,0,none⟩∧Bx 4 w g cs∧∀(i:Nat) (b:Bool),bs[i]? =some b→cs[i]? =some (.bool b))
theorem BO.ext{w w':World}{u:Value}{bs:List Bool}(h:BO w u bs)(he:Ext w w'):BO w' u bs:=by
 obtain⟨ad,cap,h1,h2,h3,h4⟩:=h;refine⟨ad,cap,h1,h2,h3,?_⟩
 rcases h4 with h4 |⟨g,cs,h4,h5,h6⟩
 ·exact .inl h4
 ·exact .inr ⟨g,cs,h4,h5.ext he,h6⟩
end Go.Proofs.YtbmnlaepfckmkaaGreat
