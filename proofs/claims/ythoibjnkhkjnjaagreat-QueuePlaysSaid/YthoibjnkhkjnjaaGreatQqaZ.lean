/-
 A heap of nodes: plain: what moving a node up and down leaves. No program is named here.
-/
import Derived.WalkKit
import Derived.Lib.Small
import Derived.Test.YthoibjnkhkjnjaaGreatComZ
import Derived.Test.YthoibjnkhkjnjaaGreatShelf
namespace Go.Proofs.YthoibjnkhkjnjaaGreat
set_option maxRecDepth 100000
set_option maxHeartbeats 1000000
set_option linter.unusedVariables false
set_option linter.unusedSimpArgs false
structure Nd where
 id:Int
 depth:Int
 q:Rat
instance:Inhabited Nd:=⟨⟨0,0,0⟩⟩
def Lt(best:Bool)(a b:Nd):Prop:=
 match best with
 |true=>a.q<b.q∨(a.q=b.q∧(b.depth<a.depth∨(a.depth=b.depth∧a.id<b.id)))
 |false=>b.depth<a.depth∨(a.depth=b.depth∧(a.q<b.q∨(a.q=b.q∧a.id<b.id)))
theorem Lt.irrefl(best:Bool)(a:Nd):¬Lt best a a:=by
 cases best<;>simp [Lt,Rat.lt_irrefl]
def Le(best:Bool)(a b:Nd):Prop:=¬Lt best b a
theorem Le.rfl'(best:Bool)(a:Nd):Le best a a:=Lt.irrefl best a
theorem le_iff(best:Bool)(a b:Nd):Le best a b↔(match best with
 |true=>a.q<b.q∨(a.q=b.q∧(b.depth<a.depth∨(a.depth=b.depth∧a.id≤b.id)))
 |false=>b.depth<a.depth∨(a.depth=b.depth∧(a.q<b.q∨(a.q=b.q∧a.id≤b.id)))):=by
 unfold Le
 cases best<;>simp only[Lt]<;>grind
theorem Le.trans{best:Bool}{a b c:Nd}(h:Le best a b)(k:Le best b c):Le best a c:=by
 rw[le_iff]at*
 cases best<;>simp only at* <;>grind
theorem Le.antisymm{best:Bool}{a b:Nd}(h:Le best a b)(k:Le best b a):a=b:=by
 rw[le_iff]at*;obtain⟨i,d,q⟩:=a;obtain⟨i2,d2,q2⟩:=b
 cases best<;>simp only at* <;>grind
theorem Lt.le{best:Bool}{a b:Nd}(h:Lt best a b):Le best a b:=by
 rw[le_iff]
 cases best<;>simp only[Lt]at* <;>grind
instance (best:Bool) (a b:Nd):Decidable (Lt best a b):=by
 unfold Lt
 cases best<;>infer_instance
def or3(x y z:Int):Int:=if x≠0 then x else if y≠0 then y else z
def cmpI(x y:Int):Int:=Lib.compareInt x y
def cmpQ(x y:Rat):Int:=if x<y then -1 else if x=y then 0 else 1
theorem or3_best(a b:Nd):or3 (cmpQ a.q b.q) (cmpI b.depth a.depth) (cmpI a.id b.id)<0↔Lt true a b:=by
 unfold or3 cmpQ cmpI Lib.compareInt Lt
 grind
theorem or3_deep(a b:Nd):or3 (cmpI b.depth a.depth) (cmpQ a.q b.q) (cmpI a.id b.id)<0↔Lt false a b:=by
 unfold or3 cmpQ cmpI Lib.compareInt Lt
 grind
def HpFrom(best:Bool)(d:Array Nd)(k:Nat):Prop:=∀j,0<j→j<d.size→k≤(j - 1) / 2→Le best d[(j - 1) / 2]! d[j]!
theorem HpFrom.root{best:Bool}{d:Array Nd}(h:HpFrom best d 0):∀j,j<d.size→Le best d[0]! d[j]! :=by
 intro j
 induction j using Nat.strongRecOn with
 |ind j ih=>
  intro hj
  rcases Nat.eq_zero_or_pos j with rfl |h0
  ·exact Le.rfl' _ _
  ·exact(ih ((j - 1) / 2) (by omega) (by omega)).trans (h j h0 hj (Nat.zero_le _))
def UpInv(best:Bool)(d:Array Nd)(i:Nat):Prop:=
 (∀j,0<j→j<d.size→j≠i→Le best d[(j - 1) / 2]! d[j]!)∧∀j,0<j→j<d.size→(j - 1) / 2=i→0<i→Le best d[(i - 1) / 2]! d[j]!
def DownInv(best:Bool)(d:Array Nd)(k i:Nat):Prop:=
 (∀j,0<j→j<d.size→k≤(j - 1) / 2→(j - 1) / 2≠i→Le best d[(j - 1) / 2]! d[j]!)∧∀j,0<j→j<d.size→(j - 1) / 2=i→0<i→k≤(i - 1) / 2→Le best d[(i - 1) / 2]! d[j]!
theorem swp_get{d:Array Nd}{i j:Nat}(hi:i<d.size)(hj:j<d.size)(m:Nat):(d.swap i j hi hj)[m]! =if m=i then d[j]! else if m=j then d[i]! else d[m]! :=by
 by_cases hm:m<d.size
 ·have hm':m<(d.swap i j hi hj).size:=by simpa using hm
  rw[getElem!_pos _ m hm',getElem!_pos d m hm,getElem!_pos d i hi,getElem!_pos d j hj,Array.getElem_swap]
 ·have h1:m≠i:=fun h=>hm (h▸hi)
  have h2:m≠j:=fun h=>hm (h▸hj)
  rw[if_neg h1,if_neg h2,getElem!_neg _ m (by simpa using hm),getElem!_neg d m hm]
theorem UpInv.start{best:Bool}{d:Array Nd}{x:Nd}(h:HpFrom best d 0):UpInv best (d.push x) d.size:=by
 have hg:∀m,m<d.size→(d.push x)[m]! =d[m]! :=fun m hm=>by
  rw[getElem!_pos _ m (by simp;omega),getElem!_pos d m hm,Array.getElem_push_lt hm]
 constructor
 ·intro j h0 hj hne
  have hj':j<d.size:=by simp at hj;omega
  rw[hg j hj',hg _ (by omega)];exact h j h0 hj' (Nat.zero_le _)
 ·intro j h0 hj hp
  simp at hj
  omega
theorem UpInv.step{best:Bool}{d:Array Nd}{i:Nat}(h:UpInv best d i)(hi:i<d.size)(h0:0<i)(hlt:Lt best d[i]! d[(i - 1) / 2]!):UpInv best (d.swap i ((i - 1) / 2) hi (by omega)) ((i - 1) / 2):=by
 obtain⟨h1,h2⟩:=h
 have hp:(i - 1) / 2<d.size:=by omega
 have hle:=Lt.le hlt
 constructor
 ·intro j hj0 hj hne
  have hj':j<d.size:=by simpa using hj
  rw[swp_get,swp_get]
  by_cases hji:j=i
  ·subst hji;rw[if_pos rfl,if_neg (by omega),if_pos rfl];exact hle
  ·rw[if_neg hji,if_neg hne]
   by_cases hpi:(j - 1) / 2=i
   ·rw[if_pos hpi];exact h2 j hj0 hj' hpi h0
   ·rw[if_neg hpi]
    by_cases hpp:(j - 1) / 2=(i - 1) / 2
    ·rw[if_pos hpp];refine Le.trans hle ?_;rw[←hpp];exact h1 j hj0 hj' hji
    ·rw[if_neg hpp];exact h1 j hj0 hj' hji
 ·intro j hj0 hj hpj hpos
  have hj':j<d.size:=by simpa using hj
  have hgp:Le best d[((i - 1) / 2 - 1) / 2]! d[(i - 1) / 2]! :=h1 _ hpos hp (by omega);rw[swp_get,swp_get];rw[if_neg (show((i - 1) / 2 - 1) / 2≠i by omega),if_neg (show((i - 1) / 2 - 1) / 2≠(i - 1) / 2 by omega)]
  by_cases hji:j=i
  ·rw[if_pos hji];exact hgp
  ·rw[if_neg hji,if_neg (show j≠(i - 1) / 2 by omega)];refine hgp.trans ?_
   have:=h1 j hj0 hj' hji
   rwa [hpj]at this
theorem UpInv.step'{best:Bool}{d:Array Nd}{i m:Nat}(h:UpInv best d i)(hm:m=(i - 1) / 2)(hi:i<d.size)(hmd:m<d.size)(h0:0<i)(hlt:Lt best d[i]! d[m]!):UpInv best (d.swap i m hi hmd) m:=by
 subst hm;exact h.step hi h0 hlt
theorem UpInv.stop{best:Bool}{d:Array Nd}{i:Nat}(h:UpInv best d i)(hs:i=0∨¬Lt best d[i]! d[(i - 1) / 2]!):HpFrom best d 0:=by
 intro j h0 hj _
 by_cases hji:j=i
 ·subst hji;exact hs.resolve_left (by omega)
 ·exact h.1 j h0 hj hji
def FirstOf(best:Bool)(d:Array Nd)(i f:Nat):Prop:=
 (f=i∨f=2*i+1∨f=2*i+2)∧f<d.size∧Le best d[f]! d[i]! ∧(2*i+1<d.size→Le best d[f]! d[2*i+1]!)∧(2*i+2<d.size→Le best d[f]! d[2*i+2]!)
theorem DownInv.stop{best:Bool}{d:Array Nd}{k i:Nat}(h:DownInv best d k i)(hf:FirstOf best d i i):HpFrom best d k:=by
 intro j h0 hj hk
 by_cases hp:(j - 1) / 2=i
 ·rw[hp]
  rcases(show j=2*i+1∨j=2*i+2 by omega)with rfl |rfl
  ·exact hf.2.2.2.1 hj
  ·exact hf.2.2.2.2 hj
 ·exact h.1 j h0 hj hk hp
theorem DownInv.step{best:Bool}{d:Array Nd}{k i f:Nat}(h:DownInv best d k i)(hi:i<d.size)(hk:k≤i)(hf:FirstOf best d i f)(hne:f≠i):DownInv best (d.swap i f hi hf.2.1) k f:=by
 obtain⟨h1,h2⟩:=h;obtain⟨hc,hfs,f0,f1,f2⟩:=hf
 have hpf:(f - 1) / 2=i:=by omega
 constructor
 ·intro j hj0 hj hkj hne2
  have hj':j<d.size:=by simpa using hj
  rw[swp_get,swp_get]
  by_cases hpi:(j - 1) / 2=i
  ·rw[if_pos hpi,if_neg (show j≠i by omega)]
   by_cases hjf:j=f
   ·rw[if_pos hjf];exact f0
   ·rw[if_neg hjf]
    rcases(show j=2*i+1∨j=2*i+2 by omega)with rfl |rfl
    ·exact f1 hj'
    ·exact f2 hj'
  ·rw[if_neg hpi,if_neg hne2]
   by_cases hji:j=i
   ·rw[if_pos hji];subst hji;exact h2 f (by omega) hfs hpf hj0 hkj
   ·rw[if_neg hji,if_neg (show j≠f by omega)];exact h1 j hj0 hj' hkj hpi
 ·intro j hj0 hj hpj hpos hkf
  have hj':j<d.size:=by simpa using hj
  rw[swp_get,swp_get,hpf,if_pos rfl,if_neg (show j≠i by omega),if_neg (show j≠f by omega),←hpj];exact h1 j hj0 hj' (by omega) (by omega)
theorem HpFrom.down{best:Bool}{d:Array Nd}{k:Nat}(h:HpFrom best d (k+1)):DownInv best d k k:=
 ⟨fun j h0 hj hk hne=>h j h0 hj (by omega),fun j h0 hj hp hpos hk=>by omega⟩
theorem HpFrom.pop{best:Bool}{d:Array Nd}(h:HpFrom best d 0)(hs:0<d.size):DownInv best ((d.set! 0 d[d.size - 1]!).pop) 0 0:=by
 have hg:∀m,0<m→m<d.size - 1→((d.set! 0 d[d.size - 1]!).pop)[m]! =d[m]! :=fun m h0 hm=>by
  have hm1:m<((d.set! 0 d[d.size - 1]!).pop).size:=by rw[Array.size_pop,Array.size_set!];exact hm
  rw[getElem!_pos _ m hm1,getElem!_pos d m (by omega),Array.getElem_pop];simp only[Array.set!_eq_setIfInBounds];rw[Array.getElem_setIfInBounds_ne (by omega) (by omega)]
 constructor
 ·intro j h0 hj hk hne
  have hj':j<d.size - 1:=by simpa using hj
  rw[hg j h0 hj',hg _ (by omega) (by omega)];exact h j h0 (by omega) (Nat.zero_le _)
 ·intro j h0 hj hp hpos
  omega
open Go.RowKit
theorem or_calls(g:Nat)(x y z:Int)(w:World)(hb:Bx 3 w g #[.int .i64 x,.int .i64 y,.int .i64 z]):
  Calls Tryz.prog 41 #[.slice (some ⟨g,0,none⟩) 3 3] w fun e w'=>e= .returned (.int .i64 (or3 x y z))∧Ext w w':=by
 obtain⟨r,hr⟩:∃r,r=or3 x y z:=⟨_,rfl⟩;have Hr:=Lib.hid hr;rw[←hr];clear hr
 have hc0:w.cell? ⟨g,0,none⟩=some (.int .i64 x):=hb.cell 0
 have hc1:w.cell? ⟨g,1,none⟩=some (.int .i64 y):=hb.cell 1
 have hc2:w.cell? ⟨g,2,none⟩=some (.int .i64 z):=hb.cell 2
 clear hb
 go_enter Tryz.func41,Tryz.ntmps41
 go_wp2_with fail
 go_loopw [8] (fun i wr=>∃k:Nat,k≤3∧i= .int .i64 (k:Int)∧Hid ((0<k→x=0)∧(1<k→y=0)∧(2<k→z=0))∧w=wr) (fun i _=>(3 - intOf i).toNat)
 case atStart=>exact ⟨0,by omega,rfl,Lib.hid ⟨by omega,by omega,by omega⟩,rfl⟩
 case round=>
  obtain⟨k,hk,rfl,hz,rfl⟩:=hrel
  rcases(show k=0∨k=1∨k=2∨k=3 by omega)with rfl |rfl |rfl |rfl
  ·by_cases hx:x=0
   ·have HX:=Lib.hid hx;subst hx;go_wp2;go_roundw
    case rel=>exact ⟨1,by omega,rfl,Lib.hid ⟨fun _=>(by first |trivial |rfl),by omega,by omega⟩,(by first |rfl |trivial)⟩
    case measure=>simp [intOf]
   ·have hfin:=Lib.hid (show r=x by rw[Hr.out];unfold or3;rw[if_pos hx]);go_wp2;go_ret;exact⟨by rw[hfin.out];rfl,Ext.refl _⟩
  ·obtain⟨h0, -, -⟩:=hz.out;have hx:=h0 (by omega)
   by_cases hy:y=0
   ·subst hy;clear h0 hx;go_wp2;go_roundw
    case rel=>exact ⟨2,by omega,rfl,Lib.hid ⟨fun _=>hz.out.1 (by omega),fun _=>(by first |trivial |rfl),by omega⟩,(by first |rfl |trivial)⟩
    case measure=>simp [intOf]
   ·have hfin:=Lib.hid (show r=y by rw[Hr.out];unfold or3;rw[if_neg (by simp[hx]),if_pos hy]);clear h0 hx;go_wp2;go_ret;exact⟨by rw[hfin.out];rfl,Ext.refl _⟩
  ·obtain⟨h0,h1, -⟩:=hz.out;have hx:=h0 (by omega);have hy:=h1 (by omega)
   by_cases hzz:z=0
   ·subst hzz;clear h0 hx h1 hy;go_wp2;go_roundw
    case rel=>exact ⟨3,by omega,rfl,Lib.hid ⟨fun _=>hz.out.1 (by omega),fun _=>hz.out.2.1 (by omega),fun _=>(by first |trivial |rfl)⟩,(by first |rfl |trivial)⟩
    case measure=>simp [intOf]
   ·have hfin:=Lib.hid (show r=z by rw[Hr.out];unfold or3;rw[if_neg (by simp[hx]),if_neg (by simp[hy])]);clear h0 hx h1 hy;go_wp2;go_ret;exact⟨by rw[hfin.out];rfl,Ext.refl _⟩
  ·obtain⟨h0,h1,h2⟩:=hz.out
   have hfin:=Lib.hid (show r=0 by
    rw[Hr.out,h0 (by omega),h1 (by omega),h2 (by omega)]
    rfl)
   clear h0 h1 h2;go_wp2;go_ret;exact⟨by rw[hfin.out];rfl,Ext.refl _⟩
def NdR(k:Nat)(w:World)(v:Value)(x:Nd):Prop:=∃b a1 n1 c1 a2 n2 c2,v= .agg #[.int .i64 x.id,.int .i64 x.depth,.bool b,.slice a1 n1 c1,.slice a2 n2 c2]∧IsR w (.agg #[.bool b,.slice a1 n1 c1,.slice a2 n2 c2]) x.q k
theorem NdR.ext{k:Nat}{w w':World}{v:Value}{x:Nd}(h:NdR k w v x)(he:Ext w w'):NdR k w' v x:=by
 obtain⟨b,a1,n1,c1,a2,n2,c2,h1,h2⟩:=h;exact⟨b,a1,n1,c1,a2,n2,c2,h1,h2.ext he⟩
def NdV(B k:Nat)(w:World)(v:Value)(x:Nd):Prop:=∃b a1 n1 c1 a2 n2 c2,v= .agg #[.int .i64 x.id,.int .i64 x.depth,.bool b,.slice a1 n1 c1,.slice a2 n2 c2]∧FrQ B w (.agg #[.bool b,.slice a1 n1 c1,.slice a2 n2 c2]) x.q∧szQ x.q≤k
theorem NdV.ext{B k:Nat}{w w':World}{v:Value}{x:Nd}(h:NdV B k w v x)(he:Ext w w'):NdV B k w' v x:=by
 obtain⟨b,a1,n1,c1,a2,n2,c2,h1,h2,h3⟩:=h;exact⟨b,a1,n1,c1,a2,n2,c2,h1,h2.ext he,h3⟩
theorem NdV.r{B k:Nat}{w:World}{v:Value}{x:Nd}(h:NdV B k w v x)(hk:k≤LIM):NdR k w v x:=by
 obtain⟨b,a1,n1,c1,a2,n2,c2,h1,h2,h3⟩:=h;exact⟨b,a1,n1,c1,a2,n2,c2,h1,h2.isR h3 hk⟩
theorem cmpQ_eq(x y:Rat):cmpQ x y=cmpR x y:=rfl
def ordV(best:Bool):Int:=if best then 0 else 1
theorem ahead_calls(p:Nat)(best:Bool)(hv va vb:Value)(a b:Nd)(k:Nat)(w:World)(hp:Bx 58 w p #[.int .i64 (ordV best),hv])(ha:NdR k w va a)(hb:NdR k w vb b)(hk:k≤34359738368):
  Calls Tryz.prog 25 #[.pointer (some ⟨p,0,none⟩),va,vb] w fun e w'=>e= .returned (.bool (decide (Lt best a b)))∧Ext w w':=by
 obtain⟨c1,a1,n1,k1,a2,n2,k2,rfl,ra⟩:=ha;obtain⟨c2,a3,n3,k3,a4,n4,k4,rfl,rb⟩:=hb;have Ra:=Lib.hid ra;have Rb:=Lib.hid rb;have hbest:=or3_best a b;have hdeep:=or3_deep a b;obtain⟨x,hx⟩:∃x,x=cmpQ a.q b.q:=⟨_,rfl⟩;obtain⟨y,hy⟩:∃y,y=cmpI b.depth a.depth:=⟨_,rfl⟩;obtain⟨z,hz⟩:∃z,z=cmpI a.id b.id:=⟨_,rfl⟩;rw[←hx,←hy,←hz]at hbest hdeep;have Hx:=Lib.hid hx.symm;have Hy:=Lib.hid hy.symm;have Hz:=Lib.hid hz.symm;have Hbest:=Lib.hid hbest;have Hdeep:=Lib.hid hdeep;clear ra rb hx hy hz hbest hdeep;obtain⟨i1,d1,q1⟩:=a;obtain⟨i2,d2,q2⟩:=b
 go_enter Tryz.func25,Tryz.ntmps25
 obtain⟨w1,hw1,e1,b1,b2,s1⟩:=alloc2 w #[.int .i64 i1,.int .i64 d1,.bool c1,.slice a1 n1 k1,.slice a2 n2 k2] #[.int .i64 i2,.int .i64 d2,.bool c2,.slice a3 n3 k3,.slice a4 n4 k4] 38 38;go_wp2_with fail;rw[←hw1];refine wpQ [PP.val (.pointer (some ⟨w.heap.size,2,none⟩)),PP.val (.agg #[.bool c1,.slice a1 n1 k1,.slice a2 n2 k2]),PP.val (.pointer (some ⟨(w.heap.size+1),2,none⟩)),PP.val (.agg #[.bool c2,.slice a3 n3 k3,.slice a4 n4 k4]),PP.val (.int .i64 x),PP.val (.pointer (some ⟨(w.heap.size+1),1,none⟩)),PP.val (.int .i64 d2),PP.val (.pointer (some ⟨w.heap.size,1,none⟩)),PP.val (.int .i64 d1),PP.val (.int .i64 y),PP.val (.int .i64 x),PP.val (.int .i64 y)] [] [0,1,2,3,4,5,6,7,8,9,10,11] ?_ ?_
 ·refine⟨?_,?_,?_,?_,?_,?_,?_,?_,?_,?_,?_,?_,trivial⟩
  ·intro f w2 hG hp hl;simp only[OpGoal];go_simp;exact⟨_,rfl,Ext.refl _,rfl⟩
  ·intro f w2 hG hp hl;have hE:Ext w1 w2:=hG;have q10:=tE hp 0 0 rfl rfl rfl;have hbx:=b1.ext hE;have hcell0:=hbx.cell 0;have hcell1:=hbx.cell 1;have hcell2:=hbx.cell 2;have hcell3:=hbx.cell 3;have hcell4:=hbx.cell 4;simp only[OpGoal];go_simp;exact⟨_,rfl,Ext.refl _,rfl⟩
  ·intro f w2 hG hp hl;simp only[OpGoal];go_simp;exact⟨_,rfl,Ext.refl _,rfl⟩
  ·intro f w2 hG hp hl;have hE:Ext w1 w2:=hG;have q12:=tE hp 0 2 rfl rfl rfl;have hbx:=b2.ext hE;have hcell0:=hbx.cell 0;have hcell1:=hbx.cell 1;have hcell2:=hbx.cell 2;have hcell3:=hbx.cell 3;have hcell4:=hbx.cell 4;simp only[OpGoal];go_simp;exact⟨_,rfl,Ext.refl _,rfl⟩
  ·intro f w2 hG hp hl;have hE:Ext w1 w2:=hG;have hS:=hE.size;have q11:=tE hp 0 1 rfl rfl rfl;have q13:=tE hp 1 3 rfl rfl rfl;change OpGoal _ _ _ f w2 Ext _;refine oC #[f 1,f 3] Tryz.func30 rfl rfl ?_;rw[q11,q13];refine(rcmp_calls _ _ q1 q2 k k _ (Ra.out.ext (e1.trans hE)) (Rb.out.ext (e1.trans hE)) (by omega)).mono ?_;rw[←cmpQ_eq,Hx.out];rintro e w' ⟨rfl,h2⟩;exact⟨_,rfl,h2,rfl⟩
  ·intro f w2 hG hp hl;simp only[OpGoal];go_simp;exact⟨_,rfl,Ext.refl _,rfl⟩
  ·intro f w2 hG hp hl;have hE:Ext w1 w2:=hG;have q15:=tE hp 0 5 rfl rfl rfl;have hcell:=(b2.ext hE).cell 1;simp only[OpGoal];go_simp;exact⟨_,rfl,Ext.refl _,rfl⟩
  ·intro f w2 hG hp hl;simp only[OpGoal];go_simp;exact⟨_,rfl,Ext.refl _,rfl⟩
  ·intro f w2 hG hp hl;have hE:Ext w1 w2:=hG;have q17:=tE hp 0 7 rfl rfl rfl;have hcell:=(b1.ext hE).cell 1;simp only[OpGoal];go_simp;exact⟨_,rfl,Ext.refl _,rfl⟩
  ·intro f w2 hG hp hl;have q16:=tE hp 0 6 rfl rfl rfl;have q18:=tE hp 1 8 rfl rfl rfl;change OpGoal _ _ _ f w2 Ext _;refine oC #[f 6,f 8] Tryz.func40 rfl rfl ?_;rw[q16,q18];refine(Tryz.cmp_Compare_int d2 d1 _).mono ?_;rintro e w' ⟨rfl,rfl⟩;exact⟨_,rfl,Ext.refl _,congrArg (Value.int .i64) Hy.out⟩
  ·intro f w2 hG hp hl;have q14:=tE hp 0 4 rfl rfl rfl;simp only[OpGoal];go_simp;exact⟨_,rfl,Ext.refl _,rfl⟩
  ·intro f w2 hG hp hl;have q19:=tE hp 0 9 rfl rfl rfl;simp only[OpGoal];go_simp;exact⟨_,rfl,Ext.refl _,rfl⟩
 ·intro f w2 hG hp;have hE:Ext w1 w2:=ChgS.nil hG
  have q7:f 10= .int .i64 x:=endV hp 10 (by decide) rfl (fun h=>by cases h)
  try simp only[q7]
  have q8:f 11= .int .i64 y:=endV hp 11 (by decide) rfl (fun h=>by cases h)
  try simp only[q8]
  clear hp;have B1:=b1.ext hE;have B2:=b2.ext hE;have E2:=e1.trans hE;have P2:=hp.ext E2;have hc0:=B1.cell 0;have hd0:=B2.cell 0;go_wp2_with fail;refine(Tryz.cmp_Compare_int i1 i2 _).mono ?_;rw[show Lib.compareInt i1 i2=z from Hz.out];rintro e w3 ⟨rfl,rfl⟩;clear hc0 hd0;have hq0:=P2.cell 0
  cases best with
  |true=>
   obtain⟨w4,hw4,e4,b4,s4⟩:=alloc1 w3 #[.int .i64 x,.int .i64 y,.int .i64 z] 3
   have hq:ordV true=0:=rfl
   rw[hq]at hq0;go_wp2_with fail;rw[←hw4];refine(or_calls _ x y z _ b4).mono ?_;obtain⟨r,hr⟩:∃r,r=or3 x y z:=⟨_,rfl⟩;rw[←hr];have hfin:=Lib.hid (show decide (Lt true ⟨i1,d1,q1⟩ ⟨i2,d2,q2⟩)=decide (r<0)from decide_eq_decide.2 (by rw[hr];exact Hbest.out.symm));clear hr;rintro e w5 ⟨rfl,e5⟩;go_wp2;go_ret;exact⟨by rw[hfin.out];rfl,E2.trans (e4.trans e5)⟩
  |false=>
   obtain⟨w4,hw4,e4,b4,s4⟩:=alloc1 w3 #[.int .i64 y,.int .i64 x,.int .i64 z] 3
   have hq:ordV false=1:=rfl
   rw[hq]at hq0;go_wp2_with fail;rw[←hw4];refine(or_calls _ y x z _ b4).mono ?_;obtain⟨r,hr⟩:∃r,r=or3 y x z:=⟨_,rfl⟩;rw[←hr];have hfin:=Lib.hid (show decide (Lt false ⟨i1,d1,q1⟩ ⟨i2,d2,q2⟩)=decide (r<0)from decide_eq_decide.2 (by rw[hr];exact Hdeep.out.symm));clear hr;rintro e w5 ⟨rfl,e5⟩;go_wp2;go_ret;exact⟨by rw[hfin.out];rfl,E2.trans (e4.trans e5)⟩
structure Sm where
 s:Nat
 g:Nat
 R:World→World→Prop
 U:World→World→Prop
 F:Value→World→Prop
def smAt:List Sm→Nat→Option Sm
 | [],_=>none
 |x::l,k=>if k=x.s then some x else smAt l k
theorem smAt_mem{l:List Sm}{k:Nat}{x:Sm}(h:smAt l k=some x):x∈l∧x.s=k:=by
 induction l with
 |nil=>cases h
 |cons y l ih=>
  simp only[smAt]at h
  split at h
  ·cases h;exact⟨List.mem_cons_self ..,by omega⟩
  ·exact⟨List.mem_cons_of_mem _ (ih h).1,(ih h).2⟩
def postM{S:Nat}(sts:List Sm)(L:List (PP S))(k:Nat)(v:Value)(w1:World):Prop:=
 match smAt sts k with
 |some x=>x.F v w1
 |none=>(L.getD k PP.any).p v w1
theorem tellM{S:Nat}{w1:World}{sts:List Sm}{L:List (PP S)}{f:Nat→Value}{l:List Edge}(hp:PostsOf (postM sts L) f w1 l)(n j:Nat)
  (h:(match l[n]? with |some e=>Region.binds .any e&&e.on==j |none=>false)=true) (hs:smAt sts j=none):(L.getD j PP.any).p (f j) w1:=by
 have:=postsOf_nth l n j h hp
 unfold postM at this;rw[hs]at this;exact this
theorem tellMS{S:Nat}{w1:World}{sts:List Sm}{L:List (PP S)}{f:Nat→Value}{l:List Edge}{x:Sm}(hp:PostsOf (postM sts L) f w1 l)(n j:Nat)
  (h:(match l[n]? with |some e=>Region.binds .any e&&e.on==j |none=>false)=true) (hs:smAt sts j=some x):x.F (f j) w1:=by
 have:=postsOf_nth l n j h hp
 unfold postM at this;rw[hs]at this;exact this
theorem endM{S:Nat}{w1:World}{sts:List Sm}{L:List (PP S)}{f:Nat→Value}{n:Nat}(hp:AllPosts (postM sts L) f w1 n 0)(j:Nat)(hk:j<n)(hs:smAt sts j=none):(L.getD j PP.any).p (f j) w1:=by
 have:=allPosts_nth n 0 j (Nat.zero_le _) (by omega) hp
 unfold postM at this;rw[hs]at this;exact this
theorem endMS{S:Nat}{w1:World}{sts:List Sm}{L:List (PP S)}{f:Nat→Value}{n:Nat}{x:Sm}(hp:AllPosts (postM sts L) f w1 n 0)(j:Nat)(hk:j<n)(hs:smAt sts j=some x):x.F (f j) w1:=by
 have:=allPosts_nth n 0 j (Nat.zero_le _) (by omega) hp
 unfold postM at this;rw[hs]at this;exact this
def OweM{S:Nat}(P:Program)(fr:(Nat→Value)→Array Value)(df:List Deferred)(w:World)(sts:List Sm)(I:World→Prop)(L:List (PP S))(lates:List (Nat×Nat×Nat))(tmps:Array Value)(pre:List Nat)(k:Nat)(o:Oper):Prop:=
 ∀f w1,(if pre.contains k then Ext w w1 else ChgS (sts.map (·.g)) w w1)→PostsOf (postM sts L) f w1 o.after.toList→LateFacts tmps f k lates→
  match smAt sts k with
  |some x=>I w1→x.U w w1→OpGoal P o ⟨fr f,df⟩ f w1 (fun a b=>x.R a b∧Chg x.g a b) (fun v w2=>x.F v w2)
  |none=>OpGoal P o ⟨fr f,df⟩ f w1 Ext (L.getD k PP.any).p
def OwesM{S:Nat}(P:Program)(fr:(Nat→Value)→Array Value)(df:List Deferred)(w:World)(sts:List Sm)(I:World→Prop)(L:List (PP S))(lates:List (Nat×Nat×Nat))(tmps:Array Value)(pre:List Nat):List Oper→Nat→Prop
 | [],_=>True
 |o::l,k=>OweM P fr df w sts I L lates tmps pre k o∧OwesM P fr df w sts I L lates tmps pre l (k+1)
theorem owesM_at{S:Nat}{P:Program}{fr:(Nat→Value)→Array Value}{df:List Deferred}{w:World}{sts:List Sm}{I:World→Prop}{L:List (PP S)}{lates:List (Nat×Nat×Nat)}{tmps:Array Value}{pre:List Nat}:
  ∀(l:List Oper) (k:Nat),OwesM P fr df w sts I L lates tmps pre l k→∀i o,l[i]? =some o→OweM P fr df w sts I L lates tmps pre (k+i) o
 | [],_,_,i,o,h=>by simp at h
 |x::l,k,hs,i,o,h=>by
  cases i with
  |zero=>
   simp only[List.getElem?_cons_zero,Option.some.injEq]at h;subst h;exact hs.1
  |succ i=>
   have:=owesM_at l (k+1) hs.2 i o (by simpa using h)
   rwa [show k+1+i=k+(i+1)by omega]at this
theorem wp_region_mut{P:Program}{id:Nat}{l:List Oper}{Q:Exit→Act→World→Prop}{tmps:Array Value}{df:List Deferred}{w:World}{fr:(Nat→Value)→Array Value}
  (sts:List Sm) (I:World→Prop) (L:List (PP w.heap.size)) (lates:List (Nat×Nat×Nat)) (pre:List Nat)
  (hm:P.follows .mixedOrders=true) (hok:(regOk l.toArray tmps.size&&lateOk l.toArray lates&&(sts.map (·.s)).all fun s=>ancOk l.toArray [s] (pre.filter (· !=s)))=true)
  (hfr:∀f,fillR l.toArray tmps f=fr f)
  (hlt:∀x∈sts,x.g<w.heap.size) (hs:∀x∈sts,smAt sts x.s=some x) (hL:∀p∈L,p.c=false)
  (hI:I w) (hIe:∀w1 w2,Ext w1 w2→I w1→I w2) (hIr:∀x∈sts,∀w1 w2,Chg x.g w1 w2→x.R w1 w2→I w1→I w2)
  (hFe:∀x∈sts,∀v w1 w2,Ext w1 w2→x.F v w1→x.F v w2) (hFr:∀x∈sts,∀y∈sts,y.s≠x.s→∀v w1 w2,Chg y.g w1 w2→y.R w1 w2→x.F v w1→x.F v w2)
  (hU:∀x∈sts,x.U w w) (hUe:∀x∈sts,∀w1 w2,w.heap.size≤w1.heap.size→Ext w1 w2→x.U w w1→x.U w w2) (hUr:∀x∈sts,∀y∈sts,y.s≠x.s→∀w1 w2,w.heap.size≤w1.heap.size→Chg y.g w1 w2→y.R w1 w2→x.U w w1→x.U w w2)
  (hE:∀w1,ChgS (sts.map (·.g)) w w1→I w1→(∀x∈sts,x.U w w1)→Ext w w1)
  (hstep:OwesM P fr df w sts I L lates tmps pre l 0)
  (hend:∀f w1,ChgS (sts.map (·.g)) w w1→I w1→AllPosts (postM sts L) f w1 l.length 0→Q .normal ⟨fr f,df⟩ w1):
  (Code.region id l.toArray true).wp P Q ⟨tmps,df⟩ w:=by
 simp only[Bool.and_eq_true]at hok;obtain⟨⟨hok1,hok2⟩,hok3⟩:=hok
 have hLk:∀k,(L.getD k PP.any).c=false:=fun k=>by
  by_cases hk:k<L.length
  ·rw[List.getD,List.getElem?_eq_getElem hk];exact hL _ (List.getElem_mem hk)
  ·rw[List.getD,List.getElem?_eq_none (by omega)]
   rfl
 refine wp_region_posts (D:=fun _ _ _=>True) (G:=fun a b=>ChgS (sts.map (·.g)) a b∧(a=w→I b)) (G0:=fun s a b=>w.heap.size≤b.heap.size∧∀x,smAt sts s=some x→a=w→x.U w b)
  (R:=fun i w1 w2=>match smAt sts i with |some x=>x.R w1 w2∧Chg x.g w1 w2 |none=>Ext w1 w2) (post:=postM sts L) hm hok1 (fun _=>trivial) ⟨(Ext.refl w).drew.chgS _,fun _=>hIe _ _ (Ext.refl w).drew hI⟩ (fun s=>⟨(Ext.refl w).drew.size,fun x hx _=>hUe x (smAt_mem hx).1 _ _ (Nat.le_refl _) (Ext.refl w).drew (hU x (smAt_mem hx).1)⟩) ?_ ?_ ?_ ?_ ?_
 ·rintro i w1 w2 ⟨hG,hI1⟩ hR
  cases hx:smAt sts i with
  |none=>rw [hx]at hR;exact⟨hG.trans (hR.chgS _),fun h=>hIe _ _ hR (hI1 h)⟩
  |some x=>rw [hx]at hR;exact⟨hG.trans (hR.2.chgS (List.mem_map.2 ⟨x,(smAt_mem hx).1,rfl⟩)),fun h=>hIr x (smAt_mem hx).1 _ _ hR.2 hR.1 (hI1 h)⟩
 ·rintro s i w1 w2 his ⟨h1,h2⟩ hR
  cases hx:smAt sts i with
  |none=>
   rw[hx]at hR;exact⟨Nat.le_trans h1 hR.size,fun y hy h=>hUe y (smAt_mem hy).1 _ _ h1 hR (h2 y hy h)⟩
  |some x=>
   rw[hx]at hR;refine⟨Nat.le_trans h1 hR.2.size,fun y hy h=>hUr y (smAt_mem hy).1 x (smAt_mem hx).1 ?_ _ _ h1 hR.2 hR.1 (h2 y hy h)⟩;rw[(smAt_mem hy).2,(smAt_mem hx).2]
   omega
 ·rintro i j v w1 w2 hij ⟨hG,_⟩ hR hp;unfold postM at hp ⊢
  cases hxj:smAt sts j with
  |none=>
   rw[hxj]at hR
   cases hxi:smAt sts i with
   |some x=>
    rw[hxi]at hp;exact hFe x (smAt_mem hxi).1 _ _ _ hR hp
   |none=>
    rw[hxi]at hp;exact(L.getD i PP.any).m _ _ _ hR hp
  |some x=>
   rw[hxj]at hR
   cases hxi:smAt sts i with
   |some y=>
    rw[hxi]at hp;refine hFr y (smAt_mem hxi).1 x (smAt_mem hxj).1 ?_ _ _ _ hR.2 hR.1 hp;rw[(smAt_mem hxi).2,(smAt_mem hxj).2]
    omega
   |none=>
    rw[hxi]at hp;exact(L.getD i PP.any).m2 (hLk i) _ (hlt x (smAt_mem hxj).1) _ _ _ hR.2 hp
 ·intro i o ho listed f w1 _ _ _ hG hpre hp hl;have hO:=owesM_at l 0 hstep i o (by simpa using ho);rw[Nat.zero_add]at hO;rw[hfr]
  have hEE:(if pre.contains i then Ext w w1 else ChgS (sts.map (·.g)) w w1):=by
   split
   ·rename_i hpi
    refine hE w1 hG.1 (hG.2 rfl) fun x hx=> ?_
    have hxs:=List.all_eq_true.1 hok3 x.s (List.mem_map.2 ⟨x,hx,rfl⟩)
    have hanc:Anc l.toArray i x.s:=by
     by_cases his:i=x.s
     ·rw[his];exact .self
     ·refine anc_of _ [x.s] (fun j hj=> ?_) hxs i (List.mem_filter.2 ⟨by simpa using hpi,by simpa using his⟩)
      have:j=x.s:=by simpa using hj
      rw[this];exact .self
    exact(hpre x.s hanc).2 x (hs x hx) rfl
   ·exact hG.1
  have hg:=hO f w1 hEE (postsOf_of _ fun e he hb=>hp e (Array.mem_toList_iff.1 he) hb) (lateFacts_of hl lates hok2);unfold postM
  cases hx:smAt sts i with
  |none=>
   simp only[hx]at hg;exact OpGoal.mono (fun _ h=>by simp only[hx];exact h) (fun v w' _ h=>⟨by simp only[hx];exact h,trivial⟩) (fun h=>⟨by simp only[hx];exact h,trivial⟩) hg
  |some x=>
   simp only[hx]at hg;have h0:=(hpre i .self).2 x hx rfl;exact OpGoal.mono (fun w' h=>by simp only[hx];exact h) (fun v w' _ h=>⟨by simp only[hx];exact h,trivial⟩) (fun h=>⟨by simp only[hx];exact h,trivial⟩) (hg (hG.2 rfl) h0)
 ·intro f w1 hG hp _;rw[hfr];exact hend f w1 hG.1 (hG.2 rfl) (allPosts_of _ _ fun i _ hi=>hp i (by simpa using hi))
def flat(vs:List Value):List Value:=vs.flatMap fun v=>v.cells.toList
def Five(vs:List Value):Prop:=∀v∈vs,∃cs:Array Value,v= .agg cs∧cs.size=5∧cs.all (·.oneCell')=true
theorem Five.size{vs:List Value}(h:Five vs):∀v∈vs,v.cells.size=5:=fun v hv=>by
 obtain⟨cs,rfl,h1, -⟩:=h v hv;exact h1
theorem flat_len{vs:List Value}(h:∀v∈vs,v.cells.size=5):(flat vs).length=vs.length*5:=by
 induction vs with
 |nil=>rfl
 |cons v vs ih=>
  unfold flat at ih ⊢;rw[List.flatMap_cons,List.length_append,ih fun u hu=>h u (List.mem_cons_of_mem _ hu),Array.length_toList,h v (List.mem_cons_self ..),List.length_cons]
  omega
theorem flat_inj:∀{vs us:List Value},Five vs→Five us→vs.length=us.length→flat vs=flat us→vs=us
 | [],[],_,_,_,_=>rfl
 | [],_::_,_,_,h,_=>by simp at h
 |_::_,[],_,_,h,_=>by simp at h
 |v::vs,u::us,h1,h2,h3,h4=>by
  obtain⟨cs,rfl,hc, -⟩:=h1 v (List.mem_cons_self ..);obtain⟨ds,rfl,hd, -⟩:=h2 u (List.mem_cons_self ..);unfold flat at h4;rw[List.flatMap_cons,List.flatMap_cons]at h4;have h5:=List.append_inj h4 (by show cs.toList.length=ds.toList.length;rw[Array.length_toList,Array.length_toList,hc,hd])
  have hcd:cs=ds:=Array.toList_inj.1 h5.1
  rw[flat_inj (vs:=vs) (us:=us) (fun v hv=>h1 v (List.mem_cons_of_mem _ hv)) (fun v hv=>h2 v (List.mem_cons_of_mem _ hv)) (by simpa using h3) h5.2,hcd]
theorem flat_append(vs us:List Value):flat (vs++us)=flat vs++flat us:=by simp[flat]
def splice(cur:Array Value)(off:Nat)(cs:List Value):Array Value:=(cur.toList.take off++cs++cur.toList.drop (off+cs.length)).toArray
theorem splice_flat{vs:List Value}{rest:List Value}{i:Nat}{v:Value}(h:∀v∈vs,v.cells.size=5)(hi:i<vs.length)(hv:v.cells.size=5):splice (flat vs++rest).toArray (i*5) v.cells.toList=(flat (vs.set i v)++rest).toArray:=by
 unfold splice
 congr 1
 have hvl:v.cells.toList.length=5:=by rw[Array.length_toList,hv]
 have h1:(flat (vs.take i)).length=i*5:=by
  rw[flat_len fun u hu=>h u (List.mem_of_mem_take hu),List.length_take,Nat.min_eq_left (by omega)]
 have h2:vs=vs.take i++(vs[i]::vs.drop (i+1)):=by rw[←List.drop_eq_getElem_cons hi,List.take_append_drop]
 have h3:flat vs=flat (vs.take i)++(vs[i].cells.toList++flat (vs.drop (i+1))):=by
  conv=>lhs;rw[h2]
  rw[flat_append]
  rfl
 have h5:vs[i].cells.toList.length=5:=by rw[Array.length_toList,h _ (List.getElem_mem hi)]
 rw[List.set_eq_take_append_cons_drop,if_pos hi,flat_append,h3]
 have h6:flat (v::vs.drop (i+1))=v.cells.toList++flat (vs.drop (i+1)):=rfl
 rw[h6,hvl];simp only[List.append_assoc];rw[List.take_append_of_le_length (by omega),List.take_of_length_le (by omega)]
 congr 2
 rw[←h1,←List.drop_drop,List.drop_left];rw[←h5,List.drop_left]
def HoldN(g:Nat)(rest:List Value)(w:World)(vs:List Value):Prop:=Five vs∧Bx 38 w g (flat vs++rest).toArray
theorem HoldN.inj{g:Nat}{rest:List Value}{w:World}{vs us:List Value}(h:HoldN g rest w vs)(k:HoldN g rest w us)(hl:vs.length=us.length):vs=us:=by
 obtain⟨h1,h2⟩:=h;obtain⟨k1,k2⟩:=k;unfold Bx at h2 k2;rw[h2]at k2;simp only[Option.some.injEq,Obj.cells.injEq,and_true]at k2
 have:=congrArg Array.toList k2
 simp only[List.append_cancel_right_eq]at this;exact flat_inj h1 k1 hl this
theorem HoldN.ext{g:Nat}{rest:List Value}{w w':World}{vs:List Value}(h:HoldN g rest w vs)(he:Ext w w'):HoldN g rest w' vs:=⟨h.1,h.2.ext he⟩
theorem HoldN.chg{g k:Nat}{rest:List Value}{w w':World}{vs:List Value}(h:HoldN g rest w vs)(he:Chg k w w')(hk:g≠k):HoldN g rest w' vs:=⟨h.1,h.2.chg he hk⟩
theorem HoldN.cell{g:Nat}{rest:List Value}{w:World}{vs:List Value}(h:HoldN g rest w vs){i:Nat}{cs:Array Value}(hi:vs[i]? =some (.agg cs)):∀(j:Nat) (v:Value),cs[j]? =some v→w.cell? ⟨g,i*5+j,none⟩=some v:=by
 intro j v hj;obtain⟨cs',hcs,hsz, -⟩:=h.1 _ (List.mem_of_getElem? hi)
 cases hcs
 have hj5:j<5:=by rw[←hsz];exact(Array.getElem?_eq_some_iff.1 hj).1
 have hil:=(List.getElem?_eq_some_iff.1 hi).1;rw[cell_of_row w g _ _ _ _ h.2,List.getElem?_toArray,List.getElem?_append_left (by rw[flat_len h.1.size];omega)];unfold flat;rw[Great.flat_get (by omega) vs h.1.size,show(i*5+j) / 5=i by omega,show(i*5+j) % 5=j by omega,hi];exact hj
section
variable {P:Program}
theorem run_storeVar_part(w:World)(g off:Nat)(t ty:TypeId)(cur cs:Array Value)(hg:w.heap[g]? =some (.cells cur t (0,0)))(hi:(P.info? ty).map (·.size)=some cs.size)(hfit:off+cs.size≤cur.size)(h1:cs.all (·.oneCell')=true):
  (storeVar ty ⟨g,off,none⟩ (.agg cs)).run P w= .ok () (w.setRow g (splice cur off cs.toList)):=by
 have hst:=run_storeCells_at P g off t cs.toList 0 cur w hg (by simpa using hfit) (fun u hu=>by
  have:=Array.all_eq_true'.1 h1 u (Array.mem_toList_iff.1 hu)
  exact this)
 cases hq:P.info? ty with
 |none=>simp [hq]at hi
 |some i=>
  have hs:i.size=cs.size:=by simpa[hq]using hi
  have hc:(Value.agg cs).cells=cs:=rfl
  simp only[Nat.add_zero]at hst
  simp[storeVar,sizeOf,typeInfo,hq,hc,hs,splice,hst]
end
def stN(g N:Nat)(rest vs:List Value)(s i:Nat)(v:Value):Sm:=
 ⟨s,g,fun a b=>∀us,us.length=N→HoldN g rest a us→HoldN g rest b (us.set i v),fun _ b=>∃us,us.length=N∧HoldN g rest b us∧us[i]? =vs[i]?,fun _ b=>∃us,us.length=N∧HoldN g rest b us∧us[i]? =some v⟩
def inN(g N:Nat)(rest vs:List Value)(i k:Nat)(b:World):Prop:=∃us,us.length=N∧HoldN g rest b us∧∀j,j≠i→j≠k→us[j]? =vs[j]?
theorem og_stN{P:Program}{o:Oper}{a:Act}{f:Nat→Value}{w:World}(g N:Nat)(rest vs:List Value)(s i p q:Nat)(v:Value)(ty:TypeId)(x y:Operand)(hgd:o.guard=none)(ho:o.op= .store ty x y)(hx:a.eval x= .pointer (some ⟨g,i*5,none⟩))(hy:a.eval y=v)
  (hi:i<N) (hty:(P.info? ty).map (·.size)=some 5) (h5:Five [v]) (hI:inN g N rest vs p q w):OpGoal P o a f w (fun a b=>(stN g N rest vs s i v).R a b∧Chg g a b) (fun u w2=>(stN g N rest vs s i v).F u w2):=by
 obtain⟨us,hl,hH, -⟩:=hI;obtain⟨cs,rfl,hcs,hc1⟩:=h5 v (List.mem_singleton.2 rfl);have hlen:=flat_len hH.1.size;have hrun:=run_storeVar_part (P:=P) w g (i*5) 38 ty _ cs hH.2 (by rw[hcs];exact hty) (by simp[hlen,hcs];omega) hc1;have hsp:=splice_flat (rest:=rest) (i:=i) (v:= .agg cs) hH.1.size (by omega) hcs
 have hcc:(Value.agg cs).cells=cs:=rfl
 rw[hcc]at hsp;rw[hsp]at hrun
 have hH2:HoldN g rest (w.setRow g (flat (us.set i (.agg cs))++rest).toArray) (us.set i (.agg cs)):=by
  refine⟨fun u hu=> ?_,hH.2.setRow _⟩
  rcases List.mem_or_eq_of_mem_set hu with hu |rfl
  ·exact hH.1 u hu
  ·exact⟨cs,rfl,hcs,hc1⟩
 unfold OpGoal;rw[hgd];unfold Oper.wp execOp;simp only[ho,hx,hy,Instr.storeAt,Instr.sureAddr,Sem.run_bind,Sem.run_pure,Result.andThen_ok,hrun];refine⟨_,rfl,⟨fun us' hl' hH'=> ?_,Chg.setRow w g _⟩,_,by rw[List.length_set];exact hl,hH2,by rw[List.getElem?_set_self (by omega)]⟩;rw[hH'.inj hH (by omega)];exact hH2
theorem wp_region_swp{P:Program}{id:Nat}{l:List Oper}{Q:Exit→Act→World→Prop}{tmps:Array Value}{df:List Deferred}{w:World}{fr:(Nat→Value)→Array Value}
  (g N i k s1 s2:Nat) (rest vs:List Value) (va vb:Value) (L:List (PP w.heap.size)) (lates:List (Nat×Nat×Nat)) (pre:List Nat)
  (hm:P.follows .mixedOrders=true) (hok:(regOk l.toArray tmps.size&&lateOk l.toArray lates&&([stN g N rest vs s1 i vb,stN g N rest vs s2 k va].map (·.s)).all fun s=>ancOk l.toArray [s] (pre.filter (· !=s)))=true)
  (hfr:∀f,fillR l.toArray tmps f=fr f)
  (hik:i≠k) (hss:s1≠s2) (hN:vs.length=N) (hH:HoldN g rest w vs) (hi:i<N) (hk:k<N) (hL:∀p∈L,p.c=false)
  (hstep:OwesM P fr df w [stN g N rest vs s1 i vb,stN g N rest vs s2 k va] (inN g N rest vs i k) L lates tmps pre l 0)
  (hend:∀f w1,Chg g w w1→HoldN g rest w1 ((vs.set i vb).set k va)→AllPosts (postM [stN g N rest vs s1 i vb,stN g N rest vs s2 k va] L) f w1 l.length 0→Q .normal ⟨fr f,df⟩ w1)
  (hs1:s1<l.length) (hs2:s2<l.length):
  (Code.region id l.toArray true).wp P Q ⟨tmps,df⟩ w:=by
 have hlt:=blk_lt hH.2
 have hmem:∀x∈ [stN g N rest vs s1 i vb,stN g N rest vs s2 k va],x=stN g N rest vs s1 i vb∨x=stN g N rest vs s2 k va:=fun x hx=>by simpa using hx
 have hat1:smAt [stN g N rest vs s1 i vb,stN g N rest vs s2 k va] s1=some (stN g N rest vs s1 i vb):=by simp[smAt,stN]
 have hat2:smAt [stN g N rest vs s1 i vb,stN g N rest vs s2 k va] s2=some (stN g N rest vs s2 k va):=by simp[smAt,stN,Ne.symm hss]
 have getset:∀(us:List Value) (p q:Nat) (v:Value),q≠p→(us.set p v)[q]? =us[q]? :=fun us p q v h=>List.getElem?_set_ne (by omega)
 refine wp_region_mut [stN g N rest vs s1 i vb,stN g N rest vs s2 k va] (inN g N rest vs i k) L lates pre hm hok hfr ?_ ?_ hL ⟨vs,hN,hH,fun _ _ _=>rfl⟩ ?_ ?_ ?_ ?_ ?_ ?_ ?_ ?_ hstep ?_
 ·intro x hx
  rcases hmem x hx with rfl |rfl<;>exact hlt
 ·intro x hx
  rcases hmem x hx with rfl |rfl
  ·exact hat1
  ·exact hat2
 ·rintro w1 w2 he ⟨us,h1,h2,h3⟩;exact⟨us,h1,h2.ext he,h3⟩
 ·intro x hx w1 w2 hch hR hI;obtain⟨us,h1,h2,h3⟩:=hI
  rcases hmem x hx with rfl |rfl
  ·exact⟨_,by rw[List.length_set];exact h1,hR us h1 h2,fun j hj hj2=>by rw[getset _ _ _ _ hj];exact h3 j hj hj2⟩
  ·exact⟨_,by rw[List.length_set];exact h1,hR us h1 h2,fun j hj hj2=>by rw[getset _ _ _ _ hj2];exact h3 j hj hj2⟩
 ·intro x hx v w1 w2 he hF
  rcases hmem x hx with rfl |rfl<;>(obtain⟨us,h1,h2,h3⟩:=hF;exact⟨us,h1,h2.ext he,h3⟩)
 ·intro x hx y hy hne v w1 w2 hch hR hF
  rcases hmem x hx with rfl |rfl<;>rcases hmem y hy with rfl |rfl
  ·exact absurd rfl hne
  ·obtain⟨us,h1,h2,h3⟩:=hF;exact⟨_,by rw[List.length_set];exact h1,hR us h1 h2,by rw[getset _ _ _ _ hik];exact h3⟩
  ·obtain⟨us,h1,h2,h3⟩:=hF;exact⟨_,by rw[List.length_set];exact h1,hR us h1 h2,by rw[getset _ _ _ _ (Ne.symm hik)];exact h3⟩
  ·exact absurd rfl hne
 ·intro x hx
  rcases hmem x hx with rfl |rfl<;>exact ⟨vs,hN,hH,rfl⟩
 ·intro x hx w1 w2 _ he hU
  rcases hmem x hx with rfl |rfl<;>(obtain⟨us,h1,h2,h3⟩:=hU;exact⟨us,h1,h2.ext he,h3⟩)
 ·intro x hx y hy hne w1 w2 _ hch hR hU
  rcases hmem x hx with rfl |rfl<;>rcases hmem y hy with rfl |rfl
  ·exact absurd rfl hne
  ·obtain⟨us,h1,h2,h3⟩:=hU;exact⟨_,by rw[List.length_set];exact h1,hR us h1 h2,by rw[getset _ _ _ _ hik];exact h3⟩
  ·obtain⟨us,h1,h2,h3⟩:=hU;exact⟨_,by rw[List.length_set];exact h1,hR us h1 h2,by rw[getset _ _ _ _ (Ne.symm hik)];exact h3⟩
  ·exact absurd rfl hne
 ·rintro w1 hG ⟨us,h1,h2,h3⟩ hU;obtain⟨us1,a1,a2,a3⟩:=hU (stN g N rest vs s1 i vb) (by simp);obtain⟨us2,b1,b2,b3⟩:=hU (stN g N rest vs s2 k va) (by simp);have e1:=a2.inj h2 (by omega);have e2:=b2.inj h2 (by omega);subst e1 e2
  have huv:us2=vs:=by
   apply List.ext_getElem?
   intro j
   by_cases hj:j=i
   ·rw[hj];exact a3
   ·by_cases hj2:j=k
    ·rw[hj2];exact b3
    ·exact h3 j hj hj2
  subst huv;refine⟨hG.1,hG.2.1,hG.2.2.1,hG.2.2.2.1,fun j hj _=> ?_⟩
  by_cases hjg:j=g
  ·rw[hjg];exact h2.2.trans hH.2.symm
  ·exact hG.2.2.2.2 j hj (by simp[stN];exact hjg)
 ·intro f w1 hG hI hp;obtain⟨us,h1,h2,h3⟩:=hI;obtain⟨us1,a1,a2,a3⟩:=endMS hp s1 hs1 hat1;obtain⟨us2,b1,b2,b3⟩:=endMS hp s2 hs2 hat2;have e1:=a2.inj h2 (by omega);have e2:=b2.inj h2 (by omega);subst e1 e2
  have huv:us2=(vs.set i vb).set k va:=by
   apply List.ext_getElem?
   intro j
   by_cases hj2:j=k
   ·rw[hj2,List.getElem?_set_self (by rw[List.length_set];omega)];exact b3
   ·rw[getset _ _ _ _ hj2]
    by_cases hj:j=i
    ·rw[hj,List.getElem?_set_self (by omega)];exact a3
    ·rw[getset _ _ _ _ hj];exact h3 j hj hj2
  refine hend f w1 ⟨hG.1,hG.2.1,hG.2.2.1,hG.2.2.2.1,fun j hj hne=>hG.2.2.2.2 j hj (by simp[stN];exact fun h=>hne (by rw[h]))⟩ (huv▸h2) hp
theorem NdV.five{B k:Nat}{w:World}{v:Value}{x:Nd}(h:NdV B k w v x):Five [v]:=by
 obtain⟨b,a1,n1,c1,a2,n2,c2,rfl, -⟩:=h;intro u hu;rw[List.mem_singleton]at hu;subst hu;exact⟨_,rfl,rfl,all5 rfl rfl rfl rfl rfl⟩
theorem NdV.chgN{B k:Nat}{w w':World}{v:Value}{x:Nd}{g:Nat}{t:TypeId}{cs cs':Array Value}(h:NdV B k w v x)(hc:Chg g w w')(hb:Bx t w g cs)(hb':Bx t w' g cs')(ht:t≠61)(ht2:t≠3):NdV B k w' v x:=by
 obtain⟨b,a1,n1,c1,a2,n2,c2,h1,h2,h3⟩:=h;exact⟨b,a1,n1,c1,a2,n2,c2,h1,h2.tchg (S:=0) ⟨g,t,cs,cs',Nat.zero_le _,ht,ht2,rfl,hb,hb',hc⟩,h3⟩
theorem og_skip{P:Program}{o:Oper}{a:Act}{f:Nat→Value}{w:World}{R:World→World→Prop}{post:Value→World→Prop}{j:Nat}{want b:Bool}(hg:o.guard=some (j,want))(hf:f j= .bool b)(hb:b≠want)(hu:post undef w):OpGoal P o a f w R post:=by
 unfold OpGoal;rw[hg];exact⟨fun h=>absurd (by rw[hf]at h;cases h;rfl) hb,fun _=>hu⟩
def Nds(B k g:Nat)(rest:List Value)(w:World)(vs:List Value)(d:Array Nd):Prop:=vs.length=d.size∧HoldN g rest w vs∧∀(i:Nat) (v:Value),vs[i]? =some v→NdV B k w v d[i]!
theorem Nds.ext{B k g:Nat}{rest:List Value}{w w':World}{vs:List Value}{d:Array Nd}(h:Nds B k g rest w vs d)(he:Ext w w'):Nds B k g rest w' vs d:=⟨h.1,h.2.1.ext he,fun i v hi=>(h.2.2 i v hi).ext he⟩
theorem Nds.at{B k g:Nat}{rest:List Value}{w:World}{vs:List Value}{d:Array Nd}(h:Nds B k g rest w vs d){i:Nat}(hi:i<d.size):∃b a1 n1 c1 a2 n2 c2,vs[i]? =some (.agg #[.int .i64 d[i]!.id,.int .i64 d[i]!.depth,.bool b,.slice a1 n1 c1,.slice a2 n2 c2])∧
  (∀wz,Ext w wz→∀(j:Nat) (v:Value),(#[.int .i64 d[i]!.id,.int .i64 d[i]!.depth,.bool b,.slice a1 n1 c1,.slice a2 n2 c2]:Array Value)[j]? =some v→wz.cell? ⟨g,i*5+j,none⟩=some v)∧
  NdV B k w (.agg #[.int .i64 d[i]!.id,.int .i64 d[i]!.depth,.bool b,.slice a1 n1 c1,.slice a2 n2 c2]) d[i]! :=by
 obtain⟨u,hi'⟩:∃u,vs[i]? =some u:=⟨_,List.getElem?_eq_getElem (by rw[h.1];exact hi)⟩;have hv:=h.2.2 i _ hi';obtain⟨b,a1,n1,c1,a2,n2,c2,h1, -⟩:=id hv;rw[h1]at hi' hv;exact⟨b,a1,n1,c1,a2,n2,c2,hi',fun wz hz j v hj=>hz.cell (h.2.1.cell hi' j v hj),hv⟩
theorem Nds.swap{B k g i j:Nat}{rest:List Value}{w w':World}{vs:List Value}{d:Array Nd}{va vb:Value}(h:Nds B k g rest w vs d)(hc:Chg g w w')(hi:i<d.size)(hj:j<d.size)(hva:vs[i]? =some va)(hvb:vs[j]? =some vb)(hH:HoldN g rest w' ((vs.set i vb).set j va)):Nds B k g rest w' ((vs.set i vb).set j va) (d.swap i j hi hj):=by
 refine⟨by rw[List.length_set,List.length_set,Array.size_swap];exact h.1,hH,fun m v hm=> ?_⟩;rw[swp_get]
 have tr:∀{u:Value} {x:Nd},NdV B k w u x→NdV B k w' u x:=fun hu=>hu.chgN hc h.2.1.2 hH.2 (by decide) (by decide)
 by_cases hmj:m=j
 ·subst hmj;rw[List.getElem?_set_self (by rw[List.length_set,h.1];exact hj)]at hm
  cases hm
  by_cases hmi:m=i
  ·subst hmi;rw[if_pos rfl];exact tr (h.2.2 m _ hva)
  ·rw[if_neg hmi,if_pos rfl];exact tr (h.2.2 i _ hva)
 ·rw[List.getElem?_set_ne (Ne.symm hmj)]at hm
  by_cases hmi:m=i
  ·subst hmi;rw[List.getElem?_set_self (by rw[h.1];exact hi)]at hm
   cases hm
   rw[if_pos rfl];exact tr (h.2.2 j _ hvb)
  ·rw[List.getElem?_set_ne (Ne.symm hmi)]at hm;rw[if_neg hmi,if_neg hmj];exact tr (h.2.2 m _ hm)
def FirstM(best:Bool)(d:Array Nd)(i f m:Nat):Prop:=
 (f=i∨(f=2*i+1∧0<m)∨(f=2*i+2∧1<m))∧f<d.size∧Le best d[f]! d[i]! ∧(0<m→2*i+1<d.size→Le best d[f]! d[2*i+1]!)∧(1<m→2*i+2<d.size→Le best d[f]! d[2*i+2]!)
theorem FirstM.zero{best:Bool}{d:Array Nd}{i:Nat}(hi:i<d.size):FirstM best d i i 0:=⟨.inl rfl,hi,Le.rfl' _ _,by omega,by omega⟩
theorem FirstM.out{best:Bool}{d:Array Nd}{i f:Nat}(h:FirstM best d i f 2):FirstOf best d i f:=by
 obtain⟨h1,h2,h3,h4,h5⟩:=h;exact⟨by omega,h2,h3,h4 (by omega),h5 (by omega)⟩
theorem FirstM.stay{best:Bool}{d:Array Nd}{i f m:Nat}(h:FirstM best d i f m)(hm:m<2)(hk:d.size≤2*i+1+m∨¬Lt best d[2*i+1+m]! d[f]!):FirstM best d i f (m+1):=by
 obtain⟨h1,h2,h3,h4,h5⟩:=h;refine⟨by omega,h2,h3,fun _ hs=> ?_,fun _ hs=> ?_⟩
 ·rcases Nat.eq_zero_or_pos m with rfl |h0
  ·exact hk.resolve_left (by omega)
  ·exact h4 h0 hs
 ·have:m=1:=by omega
  subst this;exact hk.resolve_left (by omega)
theorem FirstM.turn{best:Bool}{d:Array Nd}{i f m:Nat}(h:FirstM best d i f m)(hm:m<2)(hs:2*i+1+m<d.size)(hk:Lt best d[2*i+1+m]! d[f]!):FirstM best d i (2*i+1+m) (m+1):=by
 obtain⟨h1,h2,h3,h4,h5⟩:=h;have hle:=hk.le;refine⟨by omega,hs,hle.trans h3,fun _ hs1=> ?_,fun _ hs2=> ?_⟩
 ·rcases Nat.eq_zero_or_pos m with rfl |h0
  ·exact Le.rfl' _ _
  ·exact hle.trans (h4 h0 hs1)
 ·have:m=1:=by omega
  subst this;exact Le.rfl' _ _
theorem idx2_0(x y:Int)(w:World):(Instr.index 87 (.agg #[.int .i64 x,.int .i64 y]) (.int .i64 0)).run Tryz.prog w= .ok (.int .i64 x) w:=by kernel_rfl
theorem idx2_1(x y:Int)(w:World):(Instr.index 87 (.agg #[.int .i64 x,.int .i64 y]) (.int .i64 1)).run Tryz.prog w= .ok (.int .i64 y) w:=by kernel_rfl
set_option maxHeartbeats 8000000 in
theorem sink_calls(B k p g cap kk i0:Nat)(best:Bool)(rest vs0:List Value)(d0:Array Nd)(w:World)(hp:Bx 58 w p #[.int .i64 (ordV best),.slice (some ⟨g,0,none⟩) d0.size cap])
  (hd:Nds B k g rest w vs0 d0) (hinv:DownInv best d0 kk i0) (hkk:kk≤i0) (hi0:i0<d0.size) (hn:d0.size≤35184372088832) (hk:k≤LIM) (hk2:k≤34359738368):
  Calls Tryz.prog 29 #[.pointer (some ⟨p,0,none⟩),.int .i64 (i0:Int)] w fun e w'=>e= .returned (.tuple #[])∧Chg g w w'∧∃vs d,Nds B k g rest w' vs d∧HpFrom best d kk∧d.toList.Perm d0.toList∧d.size=d0.size:=by
 obtain⟨n,hn0⟩:∃n,n=d0.size:=⟨_,rfl⟩;rw[←hn0]at hp hn hi0;have Hn:=Lib.hid hn0
 have hpg:p≠g:=by
  rintro rfl;have h1:=hd.2.1.2;unfold Bx at h1 hp;rw[h1]at hp
  simp at hp
 have Hd:=Lib.hid hd;have Hp:=Lib.hid hp;have Hinv:=Lib.hid hinv;clear hn0 hd hp hinv;have hix0:=idx2_0;have hix1:=idx2_1
 go_enter Tryz.func29,Tryz.ntmps29
 go_wp2_with fail
 go_loopw [1] (fun s1 wr=>∃(i:Nat) (vs:List Value) (d:Array Nd),s1= .int .i64 (i:Int)∧i<n∧kk≤i∧Hid (Nds B k g rest wr vs d∧DownInv best d kk i∧d.toList.Perm d0.toList∧d.size=d0.size)∧Chg g w wr) (fun s1 _=>((n:Int) - intOf s1).toNat)
 case atStart=>exact ⟨i0,vs0,d0,rfl,hi0,hkk,Lib.hid ⟨Hd.out,Hinv.out,List.Perm.refl _,rfl⟩,Chg.refl _ _⟩
 case round=>
  obtain⟨i,vs,d,rfl,hin,hki,hH,hch⟩:=hrel;obtain⟨wo,hwo⟩:∃wo,wo=wr:=⟨wr,rfl⟩;subst hwo;have P1:=Lib.hid (Hp.out.chg hch hpg)
  have hb1:(2:Int)*(i:Int)≤9223372036854775807:=by omega
  have hb2: -9223372036854775808≤(2:Int)*(i:Int):=by omega
  go_wp2_with fail
  go_loopw [4,15] (fun s4 s15 wq=>∃(m fi:Nat),s15= .int .i64 (m:Int)∧s4= .int .i64 (fi:Int)∧m≤2∧fi<n∧Hid (FirstM best d i fi m)∧Ext wo wq) (fun _ s15 _=>(2 - intOf s15).toNat)
  case atStart=>exact ⟨0,i,rfl,rfl,by omega,hin,Lib.hid (FirstM.zero (by rw[hH.out.2.2.2,←Hn.out];exact hin)),Ext.refl _⟩
  case round=>
   obtain⟨m,fi,rfl,rfl,hm,hfn,hF,hX⟩:=hrel
   rcases(show m=0∨m=1∨m=2 by omega)with rfl |rfl |rfl
   ·have hk0:¬n≤(2*i+1+0)∨n≤(2*i+1+0):=by omega
    have hkc:(((2*i+1+0):Nat):Int)=(2*(i:Int)+1):=by omega
    have P2:=P1.out.ext hX
    rcases Nat.lt_or_ge (2*i+1+0) n with hlt |hge
    ·have hlt':(2*(i:Int)+1)<(n:Int):=by omega
     have hlt0:0≤(2*(i:Int)+1):=by omega
     have N2:=hH.out.1.ext hX
     have hdn:d.size=n:=hH.out.2.2.2.trans Hn.out.symm
     obtain⟨b1,a1,n1,c1,e1,m1,f1,hv1,hcell1,hnd1⟩:=N2.at (i:=(2*i+1+0)) (by omega);obtain⟨b2,a2,n2,c2,e2,m2,f2,hv2,hcell2,hnd2⟩:=N2.at (i:=fi) (by omega);have HC1:=Lib.hid hcell1;have HC2:=Lib.hid hcell2;have HN1:=Lib.hid hnd1;have HN2:=Lib.hid hnd2
     have hfn:fi<n:=by omega
     have htn:((2*(i:Int)+1)).toNat=(2*i+1+0):=by omega
     clear hcell1 hcell2 hnd1 hnd2 hv1 hv2 N2;obtain⟨r,hr⟩:∃r,r=decide (Lt best d[(2*i+1+0)]! d[fi]!):=⟨_,rfl⟩;have Hr:=Lib.hid hr.symm;clear hr;obtain⟨x1,hx1⟩:∃x,x=d[(2*i+1+0)]! :=⟨_,rfl⟩;obtain⟨x2,hx2⟩:∃x,x=d[fi]! :=⟨_,rfl⟩;rw[←hx1]at HC1 HN1 Hr;rw[←hx2]at HC2 HN2 Hr;have HX1:=Lib.hid hx1;have HX2:=Lib.hid hx2;clear hx1 hx2 hdn;go_wp2_with fail;refine wpQ [PP.val (.int .i64 (2*(i:Int)+1)),PP.val (.pointer (some ⟨p,0,none⟩)),PP.val (.pointer (some ⟨p,0,none⟩)),PP.val (.pointer (some ⟨p,1,none⟩)),PP.val (.slice (some ⟨g,0,none⟩) n cap),PP.val (.int .i64 (n:Int)),PP.val (.bool true),PP.val (.bool true),PP.val (.pointer (some ⟨p,0,none⟩)),PP.val (.pointer (some ⟨p,0,none⟩)),PP.val (.pointer (some ⟨p,0,none⟩)),PP.val (.pointer (some ⟨p,1,none⟩)),PP.val (.slice (some ⟨g,0,none⟩) n cap),PP.val (.int .i64 (2*(i:Int)+1)),PP.val (.pointer (some ⟨g,(2*i+1+0)*5,none⟩)),PP.val (.agg #[.int .i64 x1.id,.int .i64 x1.depth,.bool b1,.slice a1 n1 c1,.slice e1 m1 f1]),PP.val (.pointer (some ⟨p,0,none⟩)),PP.val (.pointer (some ⟨p,0,none⟩)),PP.val (.pointer (some ⟨p,1,none⟩)),PP.val (.slice (some ⟨g,0,none⟩) n cap),PP.val (.int .i64 (fi:Int)),PP.val (.pointer (some ⟨g,fi*5,none⟩)),PP.val (.agg #[.int .i64 x2.id,.int .i64 x2.depth,.bool b2,.slice a2 n2 c2,.slice e2 m2 f2]),PP.val (.bool r),PP.val (.bool r)] [] [0,1,2,3,4,5,6,7,8,9,10,11,12,13,14,15,16,17,18,19,20,21,22,23,24] ?_ ?_
     ·refine⟨?_,?_,?_,?_,?_,?_,?_,?_,?_,?_,?_,?_,?_,?_,?_,?_,?_,?_,?_,?_,?_,?_,?_,?_,?_,trivial⟩
      ·intro f w2 hG hp hl;simp only[OpGoal];go_simp;exact⟨_,rfl,Ext.refl _,rfl⟩
      ·intro f w2 hG hp hl;simp only[OpGoal];go_simp;exact⟨_,rfl,Ext.refl _,rfl⟩
      ·intro f w2 hG hp hl;have q19:=tE hp 0 1 rfl rfl rfl;simp only[OpGoal];go_simp;exact⟨_,rfl,Ext.refl _,rfl⟩
      ·intro f w2 hG hp hl;have q20:=tE hp 0 2 rfl rfl rfl;simp only[OpGoal];go_simp;exact⟨_,rfl,Ext.refl _,rfl⟩
      ·intro f w2 hG hp hl;have hE:Ext wr w2:=hG;have q21:=tE hp 0 3 rfl rfl rfl;have hcell:=(P2.ext hE).cell 1;simp only[OpGoal];go_simp;exact⟨_,rfl,Ext.refl _,rfl⟩
      ·intro f w2 hG hp hl;have q22:=tE hp 0 4 rfl rfl rfl;simp only[OpGoal];go_simp;exact⟨_,rfl,Ext.refl _,rfl⟩
      ·intro f w2 hG hp hl;have q18:=tE hp 0 0 rfl rfl rfl;have q23:=tE hp 1 5 rfl rfl rfl;simp only[OpGoal];go_simp;exact⟨_,rfl,Ext.refl _,rfl⟩
      ·intro f w2 hG hp hl;have q24:=tE hp 0 6 rfl rfl rfl;simp only[OpGoal];go_simp;exact⟨_,rfl,Ext.refl _,rfl⟩
      ·intro f w2 hG hp hl;have qg:=tE hp 0 7 rfl rfl rfl;change OpGoal _ _ _ f w2 Ext _;refine og_guard (j:=7) (want:=true) rfl qg ?_;simp only[OpGoal];go_simp;exact⟨_,rfl,Ext.refl _,rfl⟩
      ·intro f w2 hG hp hl;have qg:=tE hp 0 7 rfl rfl rfl;change OpGoal _ _ _ f w2 Ext _;refine og_guard (j:=7) (want:=true) rfl qg ?_;simp only[OpGoal];go_simp;exact⟨_,rfl,Ext.refl _,rfl⟩
      ·intro f w2 hG hp hl;have q27:=tE hp 0 9 rfl rfl rfl;have qg:=tE hp 1 7 rfl rfl rfl;change OpGoal _ _ _ f w2 Ext _;refine og_guard (j:=7) (want:=true) rfl qg ?_;simp only[OpGoal];go_simp;exact⟨_,rfl,Ext.refl _,rfl⟩
      ·intro f w2 hG hp hl;have q28:=tE hp 0 10 rfl rfl rfl;have qg:=tE hp 1 7 rfl rfl rfl;change OpGoal _ _ _ f w2 Ext _;refine og_guard (j:=7) (want:=true) rfl qg ?_;simp only[OpGoal];go_simp;exact⟨_,rfl,Ext.refl _,rfl⟩
      ·intro f w2 hG hp hl;have hE:Ext wr w2:=hG;have q29:=tE hp 0 11 rfl rfl rfl;have qg:=tE hp 1 7 rfl rfl rfl;change OpGoal _ _ _ f w2 Ext _;refine og_guard (j:=7) (want:=true) rfl qg ?_;have hcell:=(P2.ext hE).cell 1;simp only[OpGoal];go_simp;exact⟨_,rfl,Ext.refl _,rfl⟩
      ·intro f w2 hG hp hl;have qg:=tE hp 0 7 rfl rfl rfl;change OpGoal _ _ _ f w2 Ext _;refine og_guard (j:=7) (want:=true) rfl qg ?_;simp only[OpGoal];go_simp;exact⟨_,rfl,Ext.refl _,rfl⟩
      ·intro f w2 hG hp hl;have q30:=tE hp 0 12 rfl rfl rfl;have q31:=tE hp 1 13 rfl rfl rfl;have qg:=tE hp 2 7 rfl rfl rfl;change OpGoal _ _ _ f w2 Ext _;refine og_guard (j:=7) (want:=true) rfl qg ?_;simp only[OpGoal];go_simp;exact⟨_,rfl,Ext.refl _,rfl⟩
      ·intro f w2 hG hp hl;have hE:Ext wr w2:=hG;have q32:=tE hp 0 14 rfl rfl rfl;have qg:=tE hp 1 7 rfl rfl rfl;change OpGoal _ _ _ f w2 Ext _;refine og_guard (j:=7) (want:=true) rfl qg ?_;change OpGoal _ _ _ f w2 Ext _;exact og_loadAt (P:=Tryz.prog) _ _ g ((2*i+1+0)*5) _ _ rfl rfl q32 (fun j v h=>HC1.out _ hE j v h) Tryz.underlying38 rfl (by kernel_rfl) rfl
      ·intro f w2 hG hp hl;have qg:=tE hp 0 7 rfl rfl rfl;change OpGoal _ _ _ f w2 Ext _;refine og_guard (j:=7) (want:=true) rfl qg ?_;simp only[OpGoal];go_simp;exact⟨_,rfl,Ext.refl _,rfl⟩
      ·intro f w2 hG hp hl;have q34:=tE hp 0 16 rfl rfl rfl;have qg:=tE hp 1 7 rfl rfl rfl;change OpGoal _ _ _ f w2 Ext _;refine og_guard (j:=7) (want:=true) rfl qg ?_;simp only[OpGoal];go_simp;exact⟨_,rfl,Ext.refl _,rfl⟩
      ·intro f w2 hG hp hl;have q35:=tE hp 0 17 rfl rfl rfl;have qg:=tE hp 1 7 rfl rfl rfl;change OpGoal _ _ _ f w2 Ext _;refine og_guard (j:=7) (want:=true) rfl qg ?_;simp only[OpGoal];go_simp;exact⟨_,rfl,Ext.refl _,rfl⟩
      ·intro f w2 hG hp hl;have hE:Ext wr w2:=hG;have q36:=tE hp 0 18 rfl rfl rfl;have qg:=tE hp 1 7 rfl rfl rfl;change OpGoal _ _ _ f w2 Ext _;refine og_guard (j:=7) (want:=true) rfl qg ?_;have hcell:=(P2.ext hE).cell 1;simp only[OpGoal];go_simp;exact⟨_,rfl,Ext.refl _,rfl⟩
      ·intro f w2 hG hp hl;have qg:=tE hp 0 7 rfl rfl rfl;change OpGoal _ _ _ f w2 Ext _;refine og_guard (j:=7) (want:=true) rfl qg ?_;simp only[OpGoal];go_simp;exact⟨_,rfl,Ext.refl _,rfl⟩
      ·intro f w2 hG hp hl;have q37:=tE hp 0 19 rfl rfl rfl;have q38:=tE hp 1 20 rfl rfl rfl;have qg:=tE hp 2 7 rfl rfl rfl;change OpGoal _ _ _ f w2 Ext _;refine og_guard (j:=7) (want:=true) rfl qg ?_;simp only[OpGoal];go_simp;exact⟨_,rfl,Ext.refl _,rfl⟩
      ·intro f w2 hG hp hl;have hE:Ext wr w2:=hG;have q39:=tE hp 0 21 rfl rfl rfl;have qg:=tE hp 1 7 rfl rfl rfl;change OpGoal _ _ _ f w2 Ext _;refine og_guard (j:=7) (want:=true) rfl qg ?_;change OpGoal _ _ _ f w2 Ext _;exact og_loadAt (P:=Tryz.prog) _ _ g (fi*5) _ _ rfl rfl q39 (fun j v h=>HC2.out _ hE j v h) Tryz.underlying38 rfl (by kernel_rfl) rfl
      ·intro f w2 hG hp hl;have hE:Ext wr w2:=hG;have q26:=tE hp 0 8 rfl rfl rfl;have q33:=tE hp 1 15 rfl rfl rfl;have q40:=tE hp 2 22 rfl rfl rfl;have qg:=tE hp 3 7 rfl rfl rfl;change OpGoal _ _ _ f w2 Ext _;refine og_guard (j:=7) (want:=true) rfl qg ?_;change OpGoal _ _ _ f w2 Ext _;refine oC #[f 8,f 15,f 22] Tryz.func25 rfl rfl ?_;rw[q26,q33,q40];refine(ahead_calls p best _ _ _ x1 x2 k _ (P2.ext hE) ((HN1.out.r hk).ext hE) ((HN2.out.r hk).ext hE) hk2).mono ?_;rw[Hr.out];rintro e w' ⟨rfl,h2⟩;exact⟨_,rfl,h2,rfl⟩
      ·intro f w2 hG hp hl;have q25:=tE hp 0 7 rfl rfl rfl;have q41:=tE hp 1 23 rfl rfl rfl;simp only[OpGoal];go_simp;exact⟨_,rfl,Ext.refl _,rfl⟩
     ·intro f w2 hG hp;have hE:Ext wr w2:=ChgS.nil hG
      have q42:f 24= .bool r:=endV hp 24 (by decide) rfl (fun h=>by cases h)
      try simp only[q42]
      clear hp;have E2:=hX.trans hE
      cases r with
      |true=>
       have HT:=Lib.hid (FirstM.turn hF.out (by omega) (by rw[hH.out.2.2.2,←Hn.out];exact hlt) (by rw[←HX1.out,←HX2.out];exact of_decide_eq_true Hr.out));go_wp2;go_roundw
       case rel=>exact ⟨1,(2*i+1+0),rfl,congrArg (Value.int .i64) (by omega),by omega,hlt,HT,E2⟩
       case measure=>simp [intOf]
      |false=>
       have HT:=Lib.hid (FirstM.stay hF.out (by omega) (.inr (by rw[←HX1.out,←HX2.out];exact of_decide_eq_false Hr.out)));go_wp2;go_roundw
       case rel=>exact ⟨1,fi,rfl,rfl,by omega,hfn,HT,E2⟩
       case measure=>simp [intOf]
    ·have hge':¬(2*(i:Int)+1)<(n:Int):=by omega
     have HT:=Lib.hid (FirstM.stay hF.out (by omega) (.inl (by rw[hH.out.2.2.2,←Hn.out];exact hge)));clear hk0 hkc;go_wp2_with fail;refine wpQ [PP.val (.int .i64 (2*(i:Int)+1)),PP.val (.pointer (some ⟨p,0,none⟩)),PP.val (.pointer (some ⟨p,0,none⟩)),PP.val (.pointer (some ⟨p,1,none⟩)),PP.val (.slice (some ⟨g,0,none⟩) n cap),PP.val (.int .i64 (n:Int)),PP.val (.bool false),PP.val (.bool false),PP.any,PP.any,PP.any,PP.any,PP.any,PP.any,PP.any,PP.any,PP.any,PP.any,PP.any,PP.any,PP.any,PP.any,PP.any,PP.any,PP.val (.bool false)] [] [0,1,2,3,4,5,6,7,8,9,10,11,12,13,14,15,16,17,18,19,20,21,22,23,24] ?_ ?_
     ·refine⟨?_,?_,?_,?_,?_,?_,?_,?_,?_,?_,?_,?_,?_,?_,?_,?_,?_,?_,?_,?_,?_,?_,?_,?_,?_,trivial⟩
      ·intro f w2 hG hp hl;simp only[OpGoal];go_simp;exact⟨_,rfl,Ext.refl _,rfl⟩
      ·intro f w2 hG hp hl;simp only[OpGoal];go_simp;exact⟨_,rfl,Ext.refl _,rfl⟩
      ·intro f w2 hG hp hl;have q19:=tE hp 0 1 rfl rfl rfl;simp only[OpGoal];go_simp;exact⟨_,rfl,Ext.refl _,rfl⟩
      ·intro f w2 hG hp hl;have q20:=tE hp 0 2 rfl rfl rfl;simp only[OpGoal];go_simp;exact⟨_,rfl,Ext.refl _,rfl⟩
      ·intro f w2 hG hp hl;have hE:Ext wr w2:=hG;have q21:=tE hp 0 3 rfl rfl rfl;have hcell:=(P2.ext hE).cell 1;simp only[OpGoal];go_simp;exact⟨_,rfl,Ext.refl _,rfl⟩
      ·intro f w2 hG hp hl;have q22:=tE hp 0 4 rfl rfl rfl;simp only[OpGoal];go_simp;exact⟨_,rfl,Ext.refl _,rfl⟩
      ·intro f w2 hG hp hl;have hE:Ext wr w2:=hG;have hS:=hE.size;have q18:=tE hp 0 0 rfl rfl rfl;have q23:=tE hp 1 5 rfl rfl rfl;simp only[OpGoal];go_simp;exact⟨_,rfl,Ext.refl _,congrArg Value.bool (decide_eq_false (by omega))⟩
      ·intro f w2 hG hp hl;have q24:=tE hp 0 6 rfl rfl rfl;simp only[OpGoal];go_simp;exact⟨_,rfl,Ext.refl _,rfl⟩
      ·intro f w2 hG hp hl;have qg:=tE hp 0 7 rfl rfl rfl;exact og_skip rfl qg (by decide) trivial
      ·intro f w2 hG hp hl;have qg:=tE hp 0 7 rfl rfl rfl;exact og_skip rfl qg (by decide) trivial
      ·intro f w2 hG hp hl;have qg:=tE hp 1 7 rfl rfl rfl;exact og_skip rfl qg (by decide) trivial
      ·intro f w2 hG hp hl;have qg:=tE hp 1 7 rfl rfl rfl;exact og_skip rfl qg (by decide) trivial
      ·intro f w2 hG hp hl;have qg:=tE hp 1 7 rfl rfl rfl;exact og_skip rfl qg (by decide) trivial
      ·intro f w2 hG hp hl;have qg:=tE hp 0 7 rfl rfl rfl;exact og_skip rfl qg (by decide) trivial
      ·intro f w2 hG hp hl;have qg:=tE hp 2 7 rfl rfl rfl;exact og_skip rfl qg (by decide) trivial
      ·intro f w2 hG hp hl;have qg:=tE hp 1 7 rfl rfl rfl;exact og_skip rfl qg (by decide) trivial
      ·intro f w2 hG hp hl;have qg:=tE hp 0 7 rfl rfl rfl;exact og_skip rfl qg (by decide) trivial
      ·intro f w2 hG hp hl;have qg:=tE hp 1 7 rfl rfl rfl;exact og_skip rfl qg (by decide) trivial
      ·intro f w2 hG hp hl;have qg:=tE hp 1 7 rfl rfl rfl;exact og_skip rfl qg (by decide) trivial
      ·intro f w2 hG hp hl;have qg:=tE hp 1 7 rfl rfl rfl;exact og_skip rfl qg (by decide) trivial
      ·intro f w2 hG hp hl;have qg:=tE hp 0 7 rfl rfl rfl;exact og_skip rfl qg (by decide) trivial
      ·intro f w2 hG hp hl;have qg:=tE hp 2 7 rfl rfl rfl;exact og_skip rfl qg (by decide) trivial
      ·intro f w2 hG hp hl;have qg:=tE hp 1 7 rfl rfl rfl;exact og_skip rfl qg (by decide) trivial
      ·intro f w2 hG hp hl;have qg:=tE hp 3 7 rfl rfl rfl;exact og_skip rfl qg (by decide) trivial
      ·intro f w2 hG hp hl;have q25:=tE hp 0 7 rfl rfl rfl;simp only[OpGoal];go_simp;exact⟨_,rfl,Ext.refl _,rfl⟩
     ·intro f w2 hG hp;have hE:Ext wr w2:=ChgS.nil hG
      have q42:f 24= .bool false:=endV hp 24 (by decide) rfl (fun h=>by cases h)
      try simp only[q42]
      clear hp;go_wp2;go_roundw
      case rel=>exact ⟨1,fi,rfl,rfl,by omega,hfn,HT,hX.trans hE⟩
      case measure=>simp [intOf]
   ·have hk0:¬n≤(2*i+1+1)∨n≤(2*i+1+1):=by omega
    have hkc:(((2*i+1+1):Nat):Int)=(2*(i:Int)+2):=by omega
    have P2:=P1.out.ext hX
    rcases Nat.lt_or_ge (2*i+1+1) n with hlt |hge
    ·have hlt':(2*(i:Int)+2)<(n:Int):=by omega
     have hlt0:0≤(2*(i:Int)+2):=by omega
     have N2:=hH.out.1.ext hX
     have hdn:d.size=n:=hH.out.2.2.2.trans Hn.out.symm
     obtain⟨b1,a1,n1,c1,e1,m1,f1,hv1,hcell1,hnd1⟩:=N2.at (i:=(2*i+1+1)) (by omega);obtain⟨b2,a2,n2,c2,e2,m2,f2,hv2,hcell2,hnd2⟩:=N2.at (i:=fi) (by omega);have HC1:=Lib.hid hcell1;have HC2:=Lib.hid hcell2;have HN1:=Lib.hid hnd1;have HN2:=Lib.hid hnd2
     have hfn:fi<n:=by omega
     have htn:((2*(i:Int)+2)).toNat=(2*i+1+1):=by omega
     clear hcell1 hcell2 hnd1 hnd2 hv1 hv2 N2;obtain⟨r,hr⟩:∃r,r=decide (Lt best d[(2*i+1+1)]! d[fi]!):=⟨_,rfl⟩;have Hr:=Lib.hid hr.symm;clear hr;obtain⟨x1,hx1⟩:∃x,x=d[(2*i+1+1)]! :=⟨_,rfl⟩;obtain⟨x2,hx2⟩:∃x,x=d[fi]! :=⟨_,rfl⟩;rw[←hx1]at HC1 HN1 Hr;rw[←hx2]at HC2 HN2 Hr;have HX1:=Lib.hid hx1;have HX2:=Lib.hid hx2;clear hx1 hx2 hdn;go_wp2_with fail;refine wpQ [PP.val (.int .i64 (2*(i:Int)+2)),PP.val (.pointer (some ⟨p,0,none⟩)),PP.val (.pointer (some ⟨p,0,none⟩)),PP.val (.pointer (some ⟨p,1,none⟩)),PP.val (.slice (some ⟨g,0,none⟩) n cap),PP.val (.int .i64 (n:Int)),PP.val (.bool true),PP.val (.bool true),PP.val (.pointer (some ⟨p,0,none⟩)),PP.val (.pointer (some ⟨p,0,none⟩)),PP.val (.pointer (some ⟨p,0,none⟩)),PP.val (.pointer (some ⟨p,1,none⟩)),PP.val (.slice (some ⟨g,0,none⟩) n cap),PP.val (.int .i64 (2*(i:Int)+2)),PP.val (.pointer (some ⟨g,(2*i+1+1)*5,none⟩)),PP.val (.agg #[.int .i64 x1.id,.int .i64 x1.depth,.bool b1,.slice a1 n1 c1,.slice e1 m1 f1]),PP.val (.pointer (some ⟨p,0,none⟩)),PP.val (.pointer (some ⟨p,0,none⟩)),PP.val (.pointer (some ⟨p,1,none⟩)),PP.val (.slice (some ⟨g,0,none⟩) n cap),PP.val (.int .i64 (fi:Int)),PP.val (.pointer (some ⟨g,fi*5,none⟩)),PP.val (.agg #[.int .i64 x2.id,.int .i64 x2.depth,.bool b2,.slice a2 n2 c2,.slice e2 m2 f2]),PP.val (.bool r),PP.val (.bool r)] [] [0,1,2,3,4,5,6,7,8,9,10,11,12,13,14,15,16,17,18,19,20,21,22,23,24] ?_ ?_
     ·refine⟨?_,?_,?_,?_,?_,?_,?_,?_,?_,?_,?_,?_,?_,?_,?_,?_,?_,?_,?_,?_,?_,?_,?_,?_,?_,trivial⟩
      ·intro f w2 hG hp hl;simp only[OpGoal];go_simp;exact⟨_,rfl,Ext.refl _,rfl⟩
      ·intro f w2 hG hp hl;simp only[OpGoal];go_simp;exact⟨_,rfl,Ext.refl _,rfl⟩
      ·intro f w2 hG hp hl;have q19:=tE hp 0 1 rfl rfl rfl;simp only[OpGoal];go_simp;exact⟨_,rfl,Ext.refl _,rfl⟩
      ·intro f w2 hG hp hl;have q20:=tE hp 0 2 rfl rfl rfl;simp only[OpGoal];go_simp;exact⟨_,rfl,Ext.refl _,rfl⟩
      ·intro f w2 hG hp hl;have hE:Ext wr w2:=hG;have q21:=tE hp 0 3 rfl rfl rfl;have hcell:=(P2.ext hE).cell 1;simp only[OpGoal];go_simp;exact⟨_,rfl,Ext.refl _,rfl⟩
      ·intro f w2 hG hp hl;have q22:=tE hp 0 4 rfl rfl rfl;simp only[OpGoal];go_simp;exact⟨_,rfl,Ext.refl _,rfl⟩
      ·intro f w2 hG hp hl;have q18:=tE hp 0 0 rfl rfl rfl;have q23:=tE hp 1 5 rfl rfl rfl;simp only[OpGoal];go_simp;exact⟨_,rfl,Ext.refl _,rfl⟩
      ·intro f w2 hG hp hl;have q24:=tE hp 0 6 rfl rfl rfl;simp only[OpGoal];go_simp;exact⟨_,rfl,Ext.refl _,rfl⟩
      ·intro f w2 hG hp hl;have qg:=tE hp 0 7 rfl rfl rfl;change OpGoal _ _ _ f w2 Ext _;refine og_guard (j:=7) (want:=true) rfl qg ?_;simp only[OpGoal];go_simp;exact⟨_,rfl,Ext.refl _,rfl⟩
      ·intro f w2 hG hp hl;have qg:=tE hp 0 7 rfl rfl rfl;change OpGoal _ _ _ f w2 Ext _;refine og_guard (j:=7) (want:=true) rfl qg ?_;simp only[OpGoal];go_simp;exact⟨_,rfl,Ext.refl _,rfl⟩
      ·intro f w2 hG hp hl;have q27:=tE hp 0 9 rfl rfl rfl;have qg:=tE hp 1 7 rfl rfl rfl;change OpGoal _ _ _ f w2 Ext _;refine og_guard (j:=7) (want:=true) rfl qg ?_;simp only[OpGoal];go_simp;exact⟨_,rfl,Ext.refl _,rfl⟩
      ·intro f w2 hG hp hl;have q28:=tE hp 0 10 rfl rfl rfl;have qg:=tE hp 1 7 rfl rfl rfl;change OpGoal _ _ _ f w2 Ext _;refine og_guard (j:=7) (want:=true) rfl qg ?_;simp only[OpGoal];go_simp;exact⟨_,rfl,Ext.refl _,rfl⟩
      ·intro f w2 hG hp hl;have hE:Ext wr w2:=hG;have q29:=tE hp 0 11 rfl rfl rfl;have qg:=tE hp 1 7 rfl rfl rfl;change OpGoal _ _ _ f w2 Ext _;refine og_guard (j:=7) (want:=true) rfl qg ?_;have hcell:=(P2.ext hE).cell 1;simp only[OpGoal];go_simp;exact⟨_,rfl,Ext.refl _,rfl⟩
      ·intro f w2 hG hp hl;have qg:=tE hp 0 7 rfl rfl rfl;change OpGoal _ _ _ f w2 Ext _;refine og_guard (j:=7) (want:=true) rfl qg ?_;simp only[OpGoal];go_simp;exact⟨_,rfl,Ext.refl _,rfl⟩
      ·intro f w2 hG hp hl;have q30:=tE hp 0 12 rfl rfl rfl;have q31:=tE hp 1 13 rfl rfl rfl;have qg:=tE hp 2 7 rfl rfl rfl;change OpGoal _ _ _ f w2 Ext _;refine og_guard (j:=7) (want:=true) rfl qg ?_;simp only[OpGoal];go_simp;exact⟨_,rfl,Ext.refl _,rfl⟩
      ·intro f w2 hG hp hl;have hE:Ext wr w2:=hG;have q32:=tE hp 0 14 rfl rfl rfl;have qg:=tE hp 1 7 rfl rfl rfl;change OpGoal _ _ _ f w2 Ext _;refine og_guard (j:=7) (want:=true) rfl qg ?_;change OpGoal _ _ _ f w2 Ext _;exact og_loadAt (P:=Tryz.prog) _ _ g ((2*i+1+1)*5) _ _ rfl rfl q32 (fun j v h=>HC1.out _ hE j v h) Tryz.underlying38 rfl (by kernel_rfl) rfl
      ·intro f w2 hG hp hl;have qg:=tE hp 0 7 rfl rfl rfl;change OpGoal _ _ _ f w2 Ext _;refine og_guard (j:=7) (want:=true) rfl qg ?_;simp only[OpGoal];go_simp;exact⟨_,rfl,Ext.refl _,rfl⟩
      ·intro f w2 hG hp hl;have q34:=tE hp 0 16 rfl rfl rfl;have qg:=tE hp 1 7 rfl rfl rfl;change OpGoal _ _ _ f w2 Ext _;refine og_guard (j:=7) (want:=true) rfl qg ?_;simp only[OpGoal];go_simp;exact⟨_,rfl,Ext.refl _,rfl⟩
      ·intro f w2 hG hp hl;have q35:=tE hp 0 17 rfl rfl rfl;have qg:=tE hp 1 7 rfl rfl rfl;change OpGoal _ _ _ f w2 Ext _;refine og_guard (j:=7) (want:=true) rfl qg ?_;simp only[OpGoal];go_simp;exact⟨_,rfl,Ext.refl _,rfl⟩
      ·intro f w2 hG hp hl;have hE:Ext wr w2:=hG;have q36:=tE hp 0 18 rfl rfl rfl;have qg:=tE hp 1 7 rfl rfl rfl;change OpGoal _ _ _ f w2 Ext _;refine og_guard (j:=7) (want:=true) rfl qg ?_;have hcell:=(P2.ext hE).cell 1;simp only[OpGoal];go_simp;exact⟨_,rfl,Ext.refl _,rfl⟩
      ·intro f w2 hG hp hl;have qg:=tE hp 0 7 rfl rfl rfl;change OpGoal _ _ _ f w2 Ext _;refine og_guard (j:=7) (want:=true) rfl qg ?_;simp only[OpGoal];go_simp;exact⟨_,rfl,Ext.refl _,rfl⟩
      ·intro f w2 hG hp hl;have q37:=tE hp 0 19 rfl rfl rfl;have q38:=tE hp 1 20 rfl rfl rfl;have qg:=tE hp 2 7 rfl rfl rfl;change OpGoal _ _ _ f w2 Ext _;refine og_guard (j:=7) (want:=true) rfl qg ?_;simp only[OpGoal];go_simp;exact⟨_,rfl,Ext.refl _,rfl⟩
      ·intro f w2 hG hp hl;have hE:Ext wr w2:=hG;have q39:=tE hp 0 21 rfl rfl rfl;have qg:=tE hp 1 7 rfl rfl rfl;change OpGoal _ _ _ f w2 Ext _;refine og_guard (j:=7) (want:=true) rfl qg ?_;change OpGoal _ _ _ f w2 Ext _;exact og_loadAt (P:=Tryz.prog) _ _ g (fi*5) _ _ rfl rfl q39 (fun j v h=>HC2.out _ hE j v h) Tryz.underlying38 rfl (by kernel_rfl) rfl
      ·intro f w2 hG hp hl;have hE:Ext wr w2:=hG;have q26:=tE hp 0 8 rfl rfl rfl;have q33:=tE hp 1 15 rfl rfl rfl;have q40:=tE hp 2 22 rfl rfl rfl;have qg:=tE hp 3 7 rfl rfl rfl;change OpGoal _ _ _ f w2 Ext _;refine og_guard (j:=7) (want:=true) rfl qg ?_;change OpGoal _ _ _ f w2 Ext _;refine oC #[f 8,f 15,f 22] Tryz.func25 rfl rfl ?_;rw[q26,q33,q40];refine(ahead_calls p best _ _ _ x1 x2 k _ (P2.ext hE) ((HN1.out.r hk).ext hE) ((HN2.out.r hk).ext hE) hk2).mono ?_;rw[Hr.out];rintro e w' ⟨rfl,h2⟩;exact⟨_,rfl,h2,rfl⟩
      ·intro f w2 hG hp hl;have q25:=tE hp 0 7 rfl rfl rfl;have q41:=tE hp 1 23 rfl rfl rfl;simp only[OpGoal];go_simp;exact⟨_,rfl,Ext.refl _,rfl⟩
     ·intro f w2 hG hp;have hE:Ext wr w2:=ChgS.nil hG
      have q42:f 24= .bool r:=endV hp 24 (by decide) rfl (fun h=>by cases h)
      try simp only[q42]
      clear hp;have E2:=hX.trans hE
      cases r with
      |true=>
       have HT:=Lib.hid (FirstM.turn hF.out (by omega) (by rw[hH.out.2.2.2,←Hn.out];exact hlt) (by rw[←HX1.out,←HX2.out];exact of_decide_eq_true Hr.out));go_wp2;go_roundw
       case rel=>exact ⟨2,(2*i+1+1),rfl,congrArg (Value.int .i64) (by omega),by omega,hlt,HT,E2⟩
       case measure=>simp [intOf]
      |false=>
       have HT:=Lib.hid (FirstM.stay hF.out (by omega) (.inr (by rw[←HX1.out,←HX2.out];exact of_decide_eq_false Hr.out)));go_wp2;go_roundw
       case rel=>exact ⟨2,fi,rfl,rfl,by omega,hfn,HT,E2⟩
       case measure=>simp [intOf]
    ·have hge':¬(2*(i:Int)+2)<(n:Int):=by omega
     have HT:=Lib.hid (FirstM.stay hF.out (by omega) (.inl (by rw[hH.out.2.2.2,←Hn.out];exact hge)));clear hk0 hkc;go_wp2_with fail;refine wpQ [PP.val (.int .i64 (2*(i:Int)+2)),PP.val (.pointer (some ⟨p,0,none⟩)),PP.val (.pointer (some ⟨p,0,none⟩)),PP.val (.pointer (some ⟨p,1,none⟩)),PP.val (.slice (some ⟨g,0,none⟩) n cap),PP.val (.int .i64 (n:Int)),PP.val (.bool false),PP.val (.bool false),PP.any,PP.any,PP.any,PP.any,PP.any,PP.any,PP.any,PP.any,PP.any,PP.any,PP.any,PP.any,PP.any,PP.any,PP.any,PP.any,PP.val (.bool false)] [] [0,1,2,3,4,5,6,7,8,9,10,11,12,13,14,15,16,17,18,19,20,21,22,23,24] ?_ ?_
     ·refine⟨?_,?_,?_,?_,?_,?_,?_,?_,?_,?_,?_,?_,?_,?_,?_,?_,?_,?_,?_,?_,?_,?_,?_,?_,?_,trivial⟩
      ·intro f w2 hG hp hl;simp only[OpGoal];go_simp;exact⟨_,rfl,Ext.refl _,rfl⟩
      ·intro f w2 hG hp hl;simp only[OpGoal];go_simp;exact⟨_,rfl,Ext.refl _,rfl⟩
      ·intro f w2 hG hp hl;have q19:=tE hp 0 1 rfl rfl rfl;simp only[OpGoal];go_simp;exact⟨_,rfl,Ext.refl _,rfl⟩
      ·intro f w2 hG hp hl;have q20:=tE hp 0 2 rfl rfl rfl;simp only[OpGoal];go_simp;exact⟨_,rfl,Ext.refl _,rfl⟩
      ·intro f w2 hG hp hl;have hE:Ext wr w2:=hG;have q21:=tE hp 0 3 rfl rfl rfl;have hcell:=(P2.ext hE).cell 1;simp only[OpGoal];go_simp;exact⟨_,rfl,Ext.refl _,rfl⟩
      ·intro f w2 hG hp hl;have q22:=tE hp 0 4 rfl rfl rfl;simp only[OpGoal];go_simp;exact⟨_,rfl,Ext.refl _,rfl⟩
      ·intro f w2 hG hp hl;have hE:Ext wr w2:=hG;have hS:=hE.size;have q18:=tE hp 0 0 rfl rfl rfl;have q23:=tE hp 1 5 rfl rfl rfl;simp only[OpGoal];go_simp;exact⟨_,rfl,Ext.refl _,congrArg Value.bool (decide_eq_false (by omega))⟩
      ·intro f w2 hG hp hl;have q24:=tE hp 0 6 rfl rfl rfl;simp only[OpGoal];go_simp;exact⟨_,rfl,Ext.refl _,rfl⟩
      ·intro f w2 hG hp hl;have qg:=tE hp 0 7 rfl rfl rfl;exact og_skip rfl qg (by decide) trivial
      ·intro f w2 hG hp hl;have qg:=tE hp 0 7 rfl rfl rfl;exact og_skip rfl qg (by decide) trivial
      ·intro f w2 hG hp hl;have qg:=tE hp 1 7 rfl rfl rfl;exact og_skip rfl qg (by decide) trivial
      ·intro f w2 hG hp hl;have qg:=tE hp 1 7 rfl rfl rfl;exact og_skip rfl qg (by decide) trivial
      ·intro f w2 hG hp hl;have qg:=tE hp 1 7 rfl rfl rfl;exact og_skip rfl qg (by decide) trivial
      ·intro f w2 hG hp hl;have qg:=tE hp 0 7 rfl rfl rfl;exact og_skip rfl qg (by decide) trivial
      ·intro f w2 hG hp hl;have qg:=tE hp 2 7 rfl rfl rfl;exact og_skip rfl qg (by decide) trivial
      ·intro f w2 hG hp hl;have qg:=tE hp 1 7 rfl rfl rfl;exact og_skip rfl qg (by decide) trivial
      ·intro f w2 hG hp hl;have qg:=tE hp 0 7 rfl rfl rfl;exact og_skip rfl qg (by decide) trivial
      ·intro f w2 hG hp hl;have qg:=tE hp 1 7 rfl rfl rfl;exact og_skip rfl qg (by decide) trivial
      ·intro f w2 hG hp hl;have qg:=tE hp 1 7 rfl rfl rfl;exact og_skip rfl qg (by decide) trivial
      ·intro f w2 hG hp hl;have qg:=tE hp 1 7 rfl rfl rfl;exact og_skip rfl qg (by decide) trivial
      ·intro f w2 hG hp hl;have qg:=tE hp 0 7 rfl rfl rfl;exact og_skip rfl qg (by decide) trivial
      ·intro f w2 hG hp hl;have qg:=tE hp 2 7 rfl rfl rfl;exact og_skip rfl qg (by decide) trivial
      ·intro f w2 hG hp hl;have qg:=tE hp 1 7 rfl rfl rfl;exact og_skip rfl qg (by decide) trivial
      ·intro f w2 hG hp hl;have qg:=tE hp 3 7 rfl rfl rfl;exact og_skip rfl qg (by decide) trivial
      ·intro f w2 hG hp hl;have q25:=tE hp 0 7 rfl rfl rfl;simp only[OpGoal];go_simp;exact⟨_,rfl,Ext.refl _,rfl⟩
     ·intro f w2 hG hp;have hE:Ext wr w2:=ChgS.nil hG
      have q42:f 24= .bool false:=endV hp 24 (by decide) rfl (fun h=>by cases h)
      try simp only[q42]
      clear hp;go_wp2;go_roundw
      case rel=>exact ⟨2,fi,rfl,rfl,by omega,hfn,HT,hX.trans hE⟩
      case measure=>simp [intOf]
   ·have P2:=P1.out.ext hX;have N2:=hH.out.1.ext hX
    have hdn:d.size=n:=hH.out.2.2.2.trans Hn.out.symm
    have hX1:=Lib.hid hF.out.out
    by_cases hfi:fi=i
    ·subst hfi;have HS:=Lib.hid (DownInv.stop hH.out.2.1 hX1.out);have HNN:=Lib.hid N2;clear N2 hdn;go_wp2;refine bodyPost_ret (results_none (by kernel_rfl) _ _ _) rfl ?_;exact⟨rfl,hch.trans (hX.chg g),vs,d,HNN.out,HS.out,hH.out.2.2.1,hH.out.2.2.2⟩
    ·have hfi':¬(fi:Int)=(i:Int):=by omega
     have hif:i≠fi:=fun h=>hfi h.symm
     have HS:=Lib.hid (DownInv.step hH.out.2.1 (by omega) hki hX1.out hfi);obtain⟨b1,a1,n1,c1,e1,m1,f1,hv1,hcell1,hnd1⟩:=N2.at (i:=i) (by omega);obtain⟨b2,a2,n2,c2,e2,m2,f2,hv2,hcell2,hnd2⟩:=N2.at (i:=fi) (by omega);have HC1:=Lib.hid hcell1;have HC2:=Lib.hid hcell2;have HN1:=Lib.hid hnd1;have HN2:=Lib.hid hnd2;have HV1:=Lib.hid hv1;have HV2:=Lib.hid hv2;obtain⟨x1,hx1⟩:∃x,x=d[i]! :=⟨_,rfl⟩;obtain⟨x2,hx2⟩:∃x,x=d[fi]! :=⟨_,rfl⟩;rw[←hx1]at HC1 HN1 HV1;rw[←hx2]at HC2 HN2 HV2;have HNN:=Lib.hid N2;have HDN:=Lib.hid hdn;clear hx1 hx2 hcell1 hcell2 hnd1 hnd2 hv1 hv2 N2
     have hin':(i:Int)<(n:Int):=by omega
     have hfn':(fi:Int)<(n:Int):=by omega
     go_wp2_with fail
     refine wp_region_swp g n i fi 25 27 rest vs (.agg #[.int .i64 x1.id,.int .i64 x1.depth,.bool b1,.slice a1 n1 c1,.slice e1 m1 f1]) (.agg #[.int .i64 x2.id,.int .i64 x2.depth,.bool b2,.slice a2 n2 c2,.slice e2 m2 f2]) [PP.val (.pointer (some ⟨p,0,none⟩)),PP.val (.pointer (some ⟨p,0,none⟩)),PP.val (.pointer (some ⟨p,1,none⟩)),PP.val (.slice (some ⟨g,0,none⟩) n cap),PP.val (.int .i64 (i:Int)),PP.val (.pointer (some ⟨p,0,none⟩)),PP.val (.pointer (some ⟨p,0,none⟩)),PP.val (.pointer (some ⟨p,1,none⟩)),PP.val (.slice (some ⟨g,0,none⟩) n cap),PP.val (.int .i64 (fi:Int)),PP.val (.pointer (some ⟨p,0,none⟩)),PP.val (.pointer (some ⟨p,0,none⟩)),PP.val (.pointer (some ⟨p,1,none⟩)),PP.val (.slice (some ⟨g,0,none⟩) n cap),PP.val (.int .i64 (fi:Int)),PP.val (.pointer (some ⟨g,fi*5,none⟩)),PP.val (.agg #[.int .i64 x2.id,.int .i64 x2.depth,.bool b2,.slice a2 n2 c2,.slice e2 m2 f2]),PP.val (.pointer (some ⟨p,0,none⟩)),PP.val (.pointer (some ⟨p,0,none⟩)),PP.val (.pointer (some ⟨p,1,none⟩)),PP.val (.slice (some ⟨g,0,none⟩) n cap),PP.val (.int .i64 (i:Int)),PP.val (.pointer (some ⟨g,i*5,none⟩)),PP.val (.agg #[.int .i64 x1.id,.int .i64 x1.depth,.bool b1,.slice a1 n1 c1,.slice e1 m1 f1]),PP.val (.pointer (some ⟨g,i*5,none⟩)),PP.any,PP.val (.pointer (some ⟨g,fi*5,none⟩)),PP.any] [] [25,24,23,22,21,20,19,18,17,16,15,14,13,12,11,10,8,7,6,5,4,3,2,1,0] (by kernel_rfl) (by kernel_rfl) (fun f=>(by simp only[fillR,fillL,List.setIfInBounds_toArray,List.set_cons_succ,List.set_cons_zero,Nat.reduceAdd];rfl)) hif (by decide) (HNN.out.1.trans HDN.out) HNN.out.2.1 hin hfn (by intro p hp;simp only[List.mem_cons,List.not_mem_nil,or_false]at hp;rcases hp with rfl |rfl |rfl |rfl |rfl |rfl |rfl |rfl |rfl |rfl |rfl |rfl |rfl |rfl |rfl |rfl |rfl |rfl |rfl |rfl |rfl |rfl |rfl |rfl |rfl |rfl |rfl |rfl<;>rfl) ?_ ?_ (by decide) (by decide)
     ·refine⟨?_,?_,?_,?_,?_,?_,?_,?_,?_,?_,?_,?_,?_,?_,?_,?_,?_,?_,?_,?_,?_,?_,?_,?_,?_,?_,?_,?_,trivial⟩
      ·intro f w2 hG hp hl;simp only[OpGoal];go_simp;exact⟨_,rfl,Ext.refl _,rfl⟩
      ·intro f w2 hG hp hl
       have q48:f 0= .pointer (some ⟨p,0,none⟩):=tellM hp 0 0 rfl rfl
       simp only[OpGoal];go_simp;exact⟨_,rfl,Ext.refl _,rfl⟩
      ·intro f w2 hG hp hl
       have q49:f 1= .pointer (some ⟨p,0,none⟩):=tellM hp 0 1 rfl rfl
       simp only[OpGoal];go_simp;exact⟨_,rfl,Ext.refl _,rfl⟩
      ·intro f w2 hG hp hl;have hE:Ext wr w2:=hG
       have q50:f 2= .pointer (some ⟨p,1,none⟩):=tellM hp 0 2 rfl rfl
       have hcell:=(P2.ext hE).cell 1;simp only[OpGoal];go_simp;exact⟨_,rfl,Ext.refl _,rfl⟩
      ·intro f w2 hG hp hl;simp only[OpGoal];go_simp;exact⟨_,rfl,Ext.refl _,rfl⟩
      ·intro f w2 hG hp hl;simp only[OpGoal];go_simp;exact⟨_,rfl,Ext.refl _,rfl⟩
      ·intro f w2 hG hp hl
       have q53:f 5= .pointer (some ⟨p,0,none⟩):=tellM hp 0 5 rfl rfl
       simp only[OpGoal];go_simp;exact⟨_,rfl,Ext.refl _,rfl⟩
      ·intro f w2 hG hp hl
       have q54:f 6= .pointer (some ⟨p,0,none⟩):=tellM hp 0 6 rfl rfl
       simp only[OpGoal];go_simp;exact⟨_,rfl,Ext.refl _,rfl⟩
      ·intro f w2 hG hp hl;have hE:Ext wr w2:=hG
       have q55:f 7= .pointer (some ⟨p,1,none⟩):=tellM hp 0 7 rfl rfl
       have hcell:=(P2.ext hE).cell 1;simp only[OpGoal];go_simp;exact⟨_,rfl,Ext.refl _,rfl⟩
      ·intro f w2 hG hp hl;have hS:wr.heap.size≤w2.heap.size:=hG.2.2.2.1;simp only[OpGoal];go_simp;exact⟨_,rfl,Ext.refl _,rfl⟩
      ·intro f w2 hG hp hl;simp only[OpGoal];go_simp;exact⟨_,rfl,Ext.refl _,rfl⟩
      ·intro f w2 hG hp hl
       have q58:f 10= .pointer (some ⟨p,0,none⟩):=tellM hp 0 10 rfl rfl
       simp only[OpGoal];go_simp;exact⟨_,rfl,Ext.refl _,rfl⟩
      ·intro f w2 hG hp hl
       have q59:f 11= .pointer (some ⟨p,0,none⟩):=tellM hp 0 11 rfl rfl
       simp only[OpGoal];go_simp;exact⟨_,rfl,Ext.refl _,rfl⟩
      ·intro f w2 hG hp hl;have hE:Ext wr w2:=hG
       have q60:f 12= .pointer (some ⟨p,1,none⟩):=tellM hp 0 12 rfl rfl
       have hcell:=(P2.ext hE).cell 1;simp only[OpGoal];go_simp;exact⟨_,rfl,Ext.refl _,rfl⟩
      ·intro f w2 hG hp hl;simp only[OpGoal];go_simp;exact⟨_,rfl,Ext.refl _,rfl⟩
      ·intro f w2 hG hp hl
       have q61:f 13= .slice (some ⟨g,0,none⟩) n cap:=tellM hp 0 13 rfl rfl
       have q62:f 14= .int .i64 (fi:Int):=tellM hp 1 14 rfl rfl
       simp only[OpGoal];go_simp;exact⟨_,rfl,Ext.refl _,rfl⟩
      ·intro f w2 hG hp hl;have hE:Ext wr w2:=hG
       have q63:f 15= .pointer (some ⟨g,fi*5,none⟩):=tellM hp 0 15 rfl rfl
       change OpGoal _ _ _ f w2 Ext _;exact og_loadAt (P:=Tryz.prog) _ _ g (fi*5) _ _ rfl rfl q63 (fun j v h=>HC2.out _ hE j v h) Tryz.underlying38 rfl (by kernel_rfl) rfl
      ·intro f w2 hG hp hl;simp only[OpGoal];go_simp;exact⟨_,rfl,Ext.refl _,rfl⟩
      ·intro f w2 hG hp hl
       have q65:f 17= .pointer (some ⟨p,0,none⟩):=tellM hp 0 17 rfl rfl
       simp only[OpGoal];go_simp;exact⟨_,rfl,Ext.refl _,rfl⟩
      ·intro f w2 hG hp hl
       have q66:f 18= .pointer (some ⟨p,0,none⟩):=tellM hp 0 18 rfl rfl
       simp only[OpGoal];go_simp;exact⟨_,rfl,Ext.refl _,rfl⟩
      ·intro f w2 hG hp hl;have hE:Ext wr w2:=hG
       have q67:f 19= .pointer (some ⟨p,1,none⟩):=tellM hp 0 19 rfl rfl
       have hcell:=(P2.ext hE).cell 1;simp only[OpGoal];go_simp;exact⟨_,rfl,Ext.refl _,rfl⟩
      ·intro f w2 hG hp hl;simp only[OpGoal];go_simp;exact⟨_,rfl,Ext.refl _,rfl⟩
      ·intro f w2 hG hp hl
       have q68:f 20= .slice (some ⟨g,0,none⟩) n cap:=tellM hp 0 20 rfl rfl
       have q69:f 21= .int .i64 (i:Int):=tellM hp 1 21 rfl rfl
       simp only[OpGoal];go_simp;exact⟨_,rfl,Ext.refl _,rfl⟩
      ·intro f w2 hG hp hl;have hE:Ext wr w2:=hG
       have q70:f 22= .pointer (some ⟨g,i*5,none⟩):=tellM hp 0 22 rfl rfl
       change OpGoal _ _ _ f w2 Ext _;exact og_loadAt (P:=Tryz.prog) _ _ g (i*5) _ _ rfl rfl q70 (fun j v h=>HC1.out _ hE j v h) Tryz.underlying38 rfl (by kernel_rfl) rfl
      ·intro f w2 hG hp hl
       have q51:f 3= .slice (some ⟨g,0,none⟩) n cap:=tellM hp 0 3 rfl rfl
       have q52:f 4= .int .i64 (i:Int):=tellM hp 1 4 rfl rfl
       simp only[OpGoal];go_simp;exact⟨_,rfl,Ext.refl _,rfl⟩
      ·intro f w2 hG hp hl
       have q72:f 24= .pointer (some ⟨g,i*5,none⟩):=tellM hp 0 24 rfl rfl
       have q64:f 16= .agg #[.int .i64 x2.id,.int .i64 x2.depth,.bool b2,.slice a2 n2 c2,.slice e2 m2 f2]:=tellM hp 1 16 rfl rfl
       intro hI hU;exact og_stN (P:=Tryz.prog) g n _ _ 25 i _ _ _ _ _ _ rfl rfl q72 q64 hin (by kernel_rfl) (HN2.out.five) hI
      ·intro f w2 hG hp hl;have hS:wr.heap.size≤w2.heap.size:=hG.2.2.2.1
       have q56:f 8= .slice (some ⟨g,0,none⟩) n cap:=tellM hp 0 8 rfl rfl
       have q57:f 9= .int .i64 (fi:Int):=tellM hp 1 9 rfl rfl
       simp only[OpGoal];go_simp;exact⟨_,rfl,Ext.refl _,rfl⟩
      ·intro f w2 hG hp hl;have hS:wr.heap.size≤w2.heap.size:=hG.2.2.2.1
       have q73:f 26= .pointer (some ⟨g,fi*5,none⟩):=tellM hp 0 26 rfl rfl
       have q71:f 23= .agg #[.int .i64 x1.id,.int .i64 x1.depth,.bool b1,.slice a1 n1 c1,.slice e1 m1 f1]:=tellM hp 1 23 rfl rfl
       intro hI hU;exact og_stN (P:=Tryz.prog) g n _ _ 27 fi _ _ _ _ _ _ rfl rfl q73 q71 hfn (by kernel_rfl) (HN1.out.five) hI
     ·intro f w2 hC hW hp;clear hp;have HSw:=Lib.hid (HNN.out.swap hC (by rw[HDN.out];exact hin) (by rw[HDN.out];exact hfn) HV1.out HV2.out hW);clear hW;go_wp2;go_roundw
      case rel=>exact ⟨fi,_,_,rfl,hfn,by rcases hF.out.1 with h |⟨h, -⟩ |⟨h, -⟩<;>omega,Lib.hid ⟨HSw.out,HS.out,(Array.perm_iff_toList_perm.1 (Array.swap_perm _ _)).trans hH.out.2.2.1,by rw[Array.size_swap];exact hH.out.2.2.2⟩,(hch.trans (hX.chg g)).trans hC⟩
      case measure=>
       have:i<fi:=by(rcases hF.out.1 with h |⟨h, -⟩ |⟨h, -⟩<;>omega)
       simp[intOf];omega
end Go.Proofs.YthoibjnkhkjnjaaGreat
