/-
 The first node taken out.
-/
import Derived.Test.YthoibjnkhkjnjaaGreatQqfZ
namespace Go.Proofs.YthoibjnkhkjnjaaGreat
set_option maxRecDepth 100000
set_option maxHeartbeats 1000000
open Go.RowKit
set_option linter.unusedVariables false
set_option linter.unusedSimpArgs false
theorem wp_region_set{P:Program}{id:Nat}{l:List Oper}{Q:Exit→Act→World→Prop}{tmps:Array Value}{df:List Deferred}{w:World}{fr:(Nat→Value)→Array Value}
  (g N i s1:Nat) (rest vs:List Value) (vb:Value) (L:List (PP w.heap.size)) (lates:List (Nat×Nat×Nat)) (pre:List Nat)
  (hm:P.follows .mixedOrders=true) (hok:(regOk l.toArray tmps.size&&lateOk l.toArray lates&&([stN g N rest vs s1 i vb].map (·.s)).all fun s=>ancOk l.toArray [s] (pre.filter (· !=s)))=true)
  (hfr:∀f,fillR l.toArray tmps f=fr f)
  (hN:vs.length=N) (hH:HoldN g rest w vs) (hi:i<N) (hL:∀p∈L,p.c=false)
  (hstep:OwesM P fr df w [stN g N rest vs s1 i vb] (inN g N rest vs i i) L lates tmps pre l 0)
  (hend:∀f w1,Chg g w w1→HoldN g rest w1 (vs.set i vb)→AllPosts (postM [stN g N rest vs s1 i vb] L) f w1 l.length 0→Q .normal ⟨fr f,df⟩ w1)
  (hs1:s1<l.length):
  (Code.region id l.toArray true).wp P Q ⟨tmps,df⟩ w:=by
 have hlt:=blk_lt hH.2
 have hmem:∀x∈ [stN g N rest vs s1 i vb],x=stN g N rest vs s1 i vb:=fun x hx=>by simpa using hx
 have hat1:smAt [stN g N rest vs s1 i vb] s1=some (stN g N rest vs s1 i vb):=by simp[smAt,stN]
 have getset:∀(us:List Value) (p q:Nat) (v:Value),q≠p→(us.set p v)[q]? =us[q]? :=fun us p q v h=>List.getElem?_set_ne (by omega)
 refine wp_region_mut [stN g N rest vs s1 i vb] (inN g N rest vs i i) L lates pre hm hok hfr ?_ ?_ hL ⟨vs,hN,hH,fun _ _ _=>rfl⟩ ?_ ?_ ?_ ?_ ?_ ?_ ?_ ?_ hstep ?_
 ·intro x hx;rw[hmem x hx];exact hlt
 ·intro x hx;rw[hmem x hx];exact hat1
 ·rintro w1 w2 he ⟨us,h1,h2,h3⟩;exact⟨us,h1,h2.ext he,h3⟩
 ·intro x hx w1 w2 hch hR hI;obtain⟨us,h1,h2,h3⟩:=hI;have hx2:=hmem x hx;subst hx2;exact⟨_,by rw[List.length_set];exact h1,hR us h1 h2,fun j hj hj2=>by rw[getset _ _ _ _ hj];exact h3 j hj hj2⟩
 ·intro x hx v w1 w2 he hF;have hx2:=hmem x hx;subst hx2;obtain⟨us,h1,h2,h3⟩:=hF;exact⟨us,h1,h2.ext he,h3⟩
 ·intro x hx y hy hne v w1 w2 hch hR hF;exact absurd ((hmem x hx).trans (hmem y hy).symm) (fun h=>hne (by rw[h]))
 ·intro x hx;rw[hmem x hx];exact⟨vs,hN,hH,rfl⟩
 ·intro x hx w1 w2 _ he hU;have hx2:=hmem x hx;subst hx2;obtain⟨us,h1,h2,h3⟩:=hU;exact⟨us,h1,h2.ext he,h3⟩
 ·intro x hx y hy hne w1 w2 _ hch hR hU;exact absurd ((hmem x hx).trans (hmem y hy).symm) (fun h=>hne (by rw[h]))
 ·rintro w1 hG ⟨us,h1,h2,h3⟩ hU;obtain⟨us1,a1,a2,a3⟩:=hU (stN g N rest vs s1 i vb) (by simp);have e1:=a2.inj h2 (by omega);subst e1
  have huv:us1=vs:=by
   apply List.ext_getElem?
   intro j
   by_cases hj:j=i
   ·rw[hj];exact a3
   ·exact h3 j hj hj
  subst huv;refine⟨hG.1,hG.2.1,hG.2.2.1,hG.2.2.2.1,fun j hj _=> ?_⟩
  by_cases hjg:j=g
  ·rw[hjg];exact h2.2.trans hH.2.symm
  ·exact hG.2.2.2.2 j hj (by simp[stN];exact hjg)
 ·intro f w1 hG hI hp;obtain⟨us,h1,h2,h3⟩:=hI;obtain⟨us1,a1,a2,a3⟩:=endMS hp s1 hs1 hat1;have e1:=a2.inj h2 (by omega);subst e1
  have huv:us1=vs.set i vb:=by
   apply List.ext_getElem?
   intro j
   by_cases hj:j=i
   ·rw[hj,List.getElem?_set_self (by omega)];exact a3
   ·rw[getset _ _ _ _ hj];exact h3 j hj hj
  refine hend f w1 ⟨hG.1,hG.2.1,hG.2.2.1,hG.2.2.2.1,fun j hj hne=>hG.2.2.2.2 j hj (by simp[stN];exact fun h=>hne (by rw[h]))⟩ (huv▸h2) hp
set_option maxHeartbeats 4000000 in
theorem sink0_calls(p:Nat)(o:Value)(ad:Option Addr)(cap:Nat)(w:World)(hp:Bx 58 w p #[o,.slice ad 0 cap]):
  Calls Tryz.prog 29 #[.pointer (some ⟨p,0,none⟩),.int .i64 0] w fun e w'=>e= .returned (.tuple #[])∧Ext w w':=by
 have hix0:=idx2_0;have hix1:=idx2_1
 go_enter Tryz.func29,Tryz.ntmps29
 go_wp2_with fail
 go_loopw [1] (fun s1 wr=>s1= .int .i64 0∧Ext w wr) (fun s1 _=>0)
 case atStart=>exact ⟨rfl,Ext.refl _⟩
 case round=>
  obtain⟨rfl,hX0⟩:=hrel;obtain⟨wo,hwo⟩:∃wo,wo=wr:=⟨wr,rfl⟩;subst hwo;go_wp2_with fail
  go_loopw [4,15] (fun s4 s15 wq=>∃(m:Nat),s15= .int .i64 (m:Int)∧s4= .int .i64 0∧m≤2∧Ext w wq) (fun _ s15 _=>(2 - intOf s15).toNat)
  case atStart=>exact ⟨0,rfl,rfl,by omega,hX0⟩
  case round=>
   obtain⟨m,rfl,rfl,hm,hX⟩:=hrel;have P2:=hp.ext hX
   rcases(show m=0∨m=1∨m=2 by omega)with rfl |rfl |rfl
   ·go_wp2_with fail;refine wpQ [PP.val (.int .i64 1),PP.val (.pointer (some ⟨p,0,none⟩)),PP.val (.pointer (some ⟨p,0,none⟩)),PP.val (.pointer (some ⟨p,1,none⟩)),PP.val (.slice ad 0 cap),PP.val (.int .i64 0),PP.val (.bool false),PP.val (.bool false),PP.any,PP.any,PP.any,PP.any,PP.any,PP.any,PP.any,PP.any,PP.any,PP.any,PP.any,PP.any,PP.any,PP.any,PP.any,PP.any,PP.val (.bool false)] [] [0,1,2,3,4,5,6,7,8,9,10,11,12,13,14,15,16,17,18,19,20,21,22,23,24] ?_ ?_
    ·refine⟨?_,?_,?_,?_,?_,?_,?_,?_,?_,?_,?_,?_,?_,?_,?_,?_,?_,?_,?_,?_,?_,?_,?_,?_,?_,trivial⟩
     ·intro f w2 hG hp hl;simp only[OpGoal];go_simp;exact⟨_,rfl,Ext.refl _,rfl⟩
     ·intro f w2 hG hp hl;simp only[OpGoal];go_simp;exact⟨_,rfl,Ext.refl _,rfl⟩
     ·intro f w2 hG hp hl;have q19:=tE hp 0 1 rfl rfl rfl;simp only[OpGoal];go_simp;exact⟨_,rfl,Ext.refl _,rfl⟩
     ·intro f w2 hG hp hl;have q20:=tE hp 0 2 rfl rfl rfl;simp only[OpGoal];go_simp;exact⟨_,rfl,Ext.refl _,rfl⟩
     ·intro f w2 hG hp hl;have hE:Ext wr w2:=hG;have q21:=tE hp 0 3 rfl rfl rfl;have hcell:=(P2.ext hE).cell 1;simp only[OpGoal];go_simp;exact⟨_,rfl,Ext.refl _,rfl⟩
     ·intro f w2 hG hp hl;have q22:=tE hp 0 4 rfl rfl rfl;simp only[OpGoal];go_simp;exact⟨_,rfl,Ext.refl _,rfl⟩
     ·intro f w2 hG hp hl;have q18:=tE hp 0 0 rfl rfl rfl;have q23:=tE hp 1 5 rfl rfl rfl;simp only[OpGoal];go_simp;exact⟨_,rfl,Ext.refl _,rfl⟩
     ·intro f w2 hG hp hl;have q24:=tE hp 0 6 rfl rfl rfl;simp only[OpGoal];go_simp;exact⟨_,rfl,Ext.refl _,rfl⟩
     ·intro f w2 hG hp hl;have qg:=tE hp 0 7 rfl rfl rfl;exact og_skip rfl qg (by decide) trivial
     ·intro f w2 hG hp hl;have qg:=tE hp 0 7 rfl rfl rfl;exact og_skip rfl qg (by decide) trivial
     ·intro f w2 hG hp hl;have qg:=tE hp 1 7 rfl rfl rfl;exact og_skip rfl qg (by decide) trivial
     ·intro f w2 hG hp hl;have qg:=tE hp 1 7 rfl rfl rfl;exact og_skip rfl qg (by decide) trivial
     ·intro f w2 hG hp hl;have qg:=tE hp 1 7 rfl rfl rfl;exact og_skip rfl qg (by decide) trivial
     ·intro f w2 hG hp hl;have qg:=tE hp 0 7 rfl rfl rfl;exact og_skip rfl qg (by decide) trivial
     ·intro f w2 hG hp hl;have qg:=tE hp 2 7 rfl rfl rfl;exact og_skip rfl qg (by decide) trivial
     ·intro f w2 hG hp hl;have qg:=tE hp 1 7 rfl rfl rfl;exact og_skip rfl qg (by decide) trivial
     ·intro f w2 hG hp hl;have qg:=tE hp 0 7 rfl rfl rfl;exact og_skip rfl qg (by decide) trivial
     ·intro f w2 hG hp hl;have qg:=tE hp 1 7 rfl rfl rfl;exact og_skip rfl qg (by decide) trivial
     ·intro f w2 hG hp hl;have qg:=tE hp 1 7 rfl rfl rfl;exact og_skip rfl qg (by decide) trivial
     ·intro f w2 hG hp hl;have qg:=tE hp 1 7 rfl rfl rfl;exact og_skip rfl qg (by decide) trivial
     ·intro f w2 hG hp hl;have qg:=tE hp 0 7 rfl rfl rfl;exact og_skip rfl qg (by decide) trivial
     ·intro f w2 hG hp hl;have qg:=tE hp 2 7 rfl rfl rfl;exact og_skip rfl qg (by decide) trivial
     ·intro f w2 hG hp hl;have qg:=tE hp 1 7 rfl rfl rfl;exact og_skip rfl qg (by decide) trivial
     ·intro f w2 hG hp hl;have qg:=tE hp 3 7 rfl rfl rfl;exact og_skip rfl qg (by decide) trivial
     ·intro f w2 hG hp hl;have q25:=tE hp 0 7 rfl rfl rfl;simp only[OpGoal];go_simp;exact⟨_,rfl,Ext.refl _,rfl⟩
    ·intro f w2 hG hp;have hE:Ext wr w2:=ChgS.nil hG
     have q42:f 24= .bool false:=endV hp 24 (by decide) rfl (fun h=>by cases h)
     try simp only[q42]
     clear hp;go_wp2;go_roundw
     case rel=>exact ⟨1,rfl,rfl,by omega,hX.trans hE⟩
     case measure=>simp [intOf]
   ·go_wp2_with fail;refine wpQ [PP.val (.int .i64 2),PP.val (.pointer (some ⟨p,0,none⟩)),PP.val (.pointer (some ⟨p,0,none⟩)),PP.val (.pointer (some ⟨p,1,none⟩)),PP.val (.slice ad 0 cap),PP.val (.int .i64 0),PP.val (.bool false),PP.val (.bool false),PP.any,PP.any,PP.any,PP.any,PP.any,PP.any,PP.any,PP.any,PP.any,PP.any,PP.any,PP.any,PP.any,PP.any,PP.any,PP.any,PP.val (.bool false)] [] [0,1,2,3,4,5,6,7,8,9,10,11,12,13,14,15,16,17,18,19,20,21,22,23,24] ?_ ?_
    ·refine⟨?_,?_,?_,?_,?_,?_,?_,?_,?_,?_,?_,?_,?_,?_,?_,?_,?_,?_,?_,?_,?_,?_,?_,?_,?_,trivial⟩
     ·intro f w2 hG hp hl;simp only[OpGoal];go_simp;exact⟨_,rfl,Ext.refl _,rfl⟩
     ·intro f w2 hG hp hl;simp only[OpGoal];go_simp;exact⟨_,rfl,Ext.refl _,rfl⟩
     ·intro f w2 hG hp hl;have q19:=tE hp 0 1 rfl rfl rfl;simp only[OpGoal];go_simp;exact⟨_,rfl,Ext.refl _,rfl⟩
     ·intro f w2 hG hp hl;have q20:=tE hp 0 2 rfl rfl rfl;simp only[OpGoal];go_simp;exact⟨_,rfl,Ext.refl _,rfl⟩
     ·intro f w2 hG hp hl;have hE:Ext wr w2:=hG;have q21:=tE hp 0 3 rfl rfl rfl;have hcell:=(P2.ext hE).cell 1;simp only[OpGoal];go_simp;exact⟨_,rfl,Ext.refl _,rfl⟩
     ·intro f w2 hG hp hl;have q22:=tE hp 0 4 rfl rfl rfl;simp only[OpGoal];go_simp;exact⟨_,rfl,Ext.refl _,rfl⟩
     ·intro f w2 hG hp hl;have q18:=tE hp 0 0 rfl rfl rfl;have q23:=tE hp 1 5 rfl rfl rfl;simp only[OpGoal];go_simp;exact⟨_,rfl,Ext.refl _,rfl⟩
     ·intro f w2 hG hp hl;have q24:=tE hp 0 6 rfl rfl rfl;simp only[OpGoal];go_simp;exact⟨_,rfl,Ext.refl _,rfl⟩
     ·intro f w2 hG hp hl;have qg:=tE hp 0 7 rfl rfl rfl;exact og_skip rfl qg (by decide) trivial
     ·intro f w2 hG hp hl;have qg:=tE hp 0 7 rfl rfl rfl;exact og_skip rfl qg (by decide) trivial
     ·intro f w2 hG hp hl;have qg:=tE hp 1 7 rfl rfl rfl;exact og_skip rfl qg (by decide) trivial
     ·intro f w2 hG hp hl;have qg:=tE hp 1 7 rfl rfl rfl;exact og_skip rfl qg (by decide) trivial
     ·intro f w2 hG hp hl;have qg:=tE hp 1 7 rfl rfl rfl;exact og_skip rfl qg (by decide) trivial
     ·intro f w2 hG hp hl;have qg:=tE hp 0 7 rfl rfl rfl;exact og_skip rfl qg (by decide) trivial
     ·intro f w2 hG hp hl;have qg:=tE hp 2 7 rfl rfl rfl;exact og_skip rfl qg (by decide) trivial
     ·intro f w2 hG hp hl;have qg:=tE hp 1 7 rfl rfl rfl;exact og_skip rfl qg (by decide) trivial
     ·intro f w2 hG hp hl;have qg:=tE hp 0 7 rfl rfl rfl;exact og_skip rfl qg (by decide) trivial
     ·intro f w2 hG hp hl;have qg:=tE hp 1 7 rfl rfl rfl;exact og_skip rfl qg (by decide) trivial
     ·intro f w2 hG hp hl;have qg:=tE hp 1 7 rfl rfl rfl;exact og_skip rfl qg (by decide) trivial
     ·intro f w2 hG hp hl;have qg:=tE hp 1 7 rfl rfl rfl;exact og_skip rfl qg (by decide) trivial
     ·intro f w2 hG hp hl;have qg:=tE hp 0 7 rfl rfl rfl;exact og_skip rfl qg (by decide) trivial
     ·intro f w2 hG hp hl;have qg:=tE hp 2 7 rfl rfl rfl;exact og_skip rfl qg (by decide) trivial
     ·intro f w2 hG hp hl;have qg:=tE hp 1 7 rfl rfl rfl;exact og_skip rfl qg (by decide) trivial
     ·intro f w2 hG hp hl;have qg:=tE hp 3 7 rfl rfl rfl;exact og_skip rfl qg (by decide) trivial
     ·intro f w2 hG hp hl;have q25:=tE hp 0 7 rfl rfl rfl;simp only[OpGoal];go_simp;exact⟨_,rfl,Ext.refl _,rfl⟩
    ·intro f w2 hG hp;have hE:Ext wr w2:=ChgS.nil hG
     have q42:f 24= .bool false:=endV hp 24 (by decide) rfl (fun h=>by cases h)
     try simp only[q42]
     clear hp;go_wp2;go_roundw
     case rel=>exact ⟨2,rfl,rfl,by omega,hX.trans hE⟩
     case measure=>simp [intOf]
   ·go_wp2;refine bodyPost_ret (results_none (by kernel_rfl) _ _ _) rfl ?_;exact⟨rfl,hX⟩
set_option maxHeartbeats 2000000 in
theorem pop_none(p:Nat)(o:Value)(ad:Option Addr)(cap:Nat)(w:World)(hp:Bx 58 w p #[o,.slice ad 0 cap]):
  Calls Tryz.prog 11 #[.pointer (some ⟨p,0,none⟩)] w fun e w'=>e= .returned (.tuple #[.agg #[.int .i64 0,.int .i64 0,.bool false,.slice none 0 0,.slice none 0 0],.bool false])∧Ext w w':=by
 obtain⟨w1,hw1,e1,b1,s1⟩:=alloc1 w #[.int .i64 0,.int .i64 0,.bool false,.slice none 0 0,.slice none 0 0] 38;have hlt:=hp.lt
 have hc:(w.alloc (.cells #[.int .i64 0,.int .i64 0,.bool false,.slice none 0 0,.slice none 0 0] 38)).cell? ⟨p,1,none⟩=some (.slice ad 0 cap):=by
  rw[←hw1];exact(hp.ext e1).cell 1
 go_enter Tryz.func11,Tryz.ntmps11
 go_wp2;rw[←hw1];refine ret_box2 2 3 38 w.heap.size 38 _ _ _ (by kernel_rfl) rfl rfl b1 Tryz.underlying38 rfl (by kernel_rfl) rfl ?_;exact⟨rfl,e1⟩
theorem pop_perm{d:Array Nd}{m:Nat}(h:d.size=m+1):(d[0]! ::((d.set! 0 d[m]!).pop).toList).Perm d.toList:=by
 obtain⟨l⟩:=d
 have hl:l.length=m+1:=h
 have h1:((#[]++l.toArray:Array Nd).set! 0 (l.toArray)[m]!).pop.toList=(l.set 0 (l[m]'(by omega))).dropLast:=by
  have:(l.toArray)[m]! =l[m]'(by omega):=by rw[getElem!_pos _ m (by simp;omega)];rfl
  rw[this]
  simp[Array.set!_eq_setIfInBounds]
 have h2:(#[]++l.toArray:Array Nd)=l.toArray:=by simp
 rw[h2]at h1
 have h3:(Array.mk l)[0]! =l[0]'(by omega):=by rw[getElem!_pos _ 0 (by show 0<l.length;omega)];rfl
 show((Array.mk l)[0]! ::(((Array.mk l).set! 0 (Array.mk l)[m]!).pop).toList).Perm l
 rw[h3,h1]
 cases l with
 |nil=>simp at hl
 |cons a t=>
  rcases t with _ |⟨b,t⟩
  ·have:m=0:=by simpa using hl.symm
   subst this
   simp
  ·have hm:m=t.length+1:=by simp at hl;omega
   subst hm
   have e1:(a::b::t)[t.length+1]'(by simp)=(b::t).getLast (by simp):=by
    rw[List.getLast_eq_getElem]
    rfl
   rw[e1]
   show List.Perm (a::((b::t).getLast (by simp)::(b::t)).dropLast) (a::b::t)
   refine List.Perm.cons _ ?_;rw[List.dropLast_cons_of_ne_nil (by simp)];have e2:=List.dropLast_concat_getLast (l:=b::t) (by simp)
   conv=>rhs;rw[←e2]
   exact(List.perm_append_singleton _ _).symm
theorem Nds.put{B k g m:Nat}{rest:List Value}{w w':World}{vs:List Value}{d:Array Nd}{vm:Value}(h:Nds B k g rest w vs d)(hc:Chg g w w')(hm:m<d.size)(hvm:vs[m]? =some vm)(hH:HoldN g rest w' (vs.set 0 vm)):Nds B k g rest w' (vs.set 0 vm) (d.set! 0 d[m]!):=by
 refine⟨by rw[List.length_set,Array.size_set!];exact h.1,hH,fun i v hi=> ?_⟩
 have tr:∀{u:Value} {x:Nd},NdV B k w u x→NdV B k w' u x:=fun hu=>hu.chgN hc h.2.1.2 hH.2 (by decide) (by decide)
 have hil:i<d.size:=by
  have:=(List.getElem?_eq_some_iff.1 hi).1
  rw[List.length_set,h.1]at this;exact this
 by_cases h0:i=0
 ·subst h0;rw[List.getElem?_set_self (by rw[h.1];exact hil)]at hi
  cases hi
  rw[getElem!_pos _ 0 (by rw[Array.size_set!];exact hil)];simp only[Array.set!_eq_setIfInBounds,Array.getElem_setIfInBounds_self];exact tr (h.2.2 m _ hvm)
 ·rw[List.getElem?_set_ne (Ne.symm h0)]at hi;rw[getElem!_pos _ i (by rw[Array.size_set!];exact hil)];simp only[Array.set!_eq_setIfInBounds];rw[Array.getElem_setIfInBounds_ne (by omega) (by omega),←getElem!_pos d i hil];exact tr (h.2.2 i _ hi)
theorem Nds.drop{B k g m:Nat}{rest:List Value}{w:World}{vs:List Value}{d:Array Nd}(h:Nds B k g rest w vs d)(hm:d.size=m+1):∃vs' rest',Nds B k g rest' w vs' d.pop∧vs'.length*5+rest'.length=vs.length*5+rest.length:=by
 have hl:vs.length=m+1:=h.1.trans hm
 have hne:vs≠ []:=by intro h0;rw[h0]at hl;simp at hl
 have e:=List.dropLast_concat_getLast hne
 have hfl:flat vs++rest=flat vs.dropLast++((vs.getLast hne).cells.toList++rest):=by
  conv=>lhs;rw[←e]
  rw[flat_append,List.append_assoc]
  congr 2
  simp[flat]
 have h5l:=h.2.1.1.size _ (List.getLast_mem hne);refine⟨vs.dropLast,(vs.getLast hne).cells.toList++rest,⟨?_,⟨fun v hv=>h.2.1.1 v (List.dropLast_subset _ hv),?_⟩,fun i v hi=> ?_⟩,?_⟩
 ·rw[List.length_dropLast,Array.size_pop,h.1]
 ·rw[←hfl];exact h.2.1.2
 ·have hil:=(List.getElem?_eq_some_iff.1 hi).1;rw[List.length_dropLast]at hil
  have hi2:vs[i]? =some v:=by
   rw[←hi,List.getElem?_dropLast,if_pos hil]
  have:=h.2.2 i v hi2
  rw[getElem!_pos d i (by rw[←h.1];omega)]at this;rw[getElem!_pos d.pop i (by rw[Array.size_pop,←h.1];omega),Array.getElem_pop];exact this
 ·have h6:(vs.getLast hne).cells.toList.length=5:=by rw[Array.length_toList];exact h5l
  rw[List.length_append,List.length_dropLast,h6]
  omega
theorem Nds.chgP{B k g p:Nat}{rest:List Value}{w w':World}{vs:List Value}{d:Array Nd}{t:TypeId}{cs cs':Array Value}(h:Nds B k g rest w vs d)(hc:Chg p w w')(hb:Bx t w p cs)(hb':Bx t w' p cs')(ht:t≠61)(ht2:t≠3)(hg:g≠p):Nds B k g rest w' vs d:=
 ⟨h.1,h.2.1.chg hc hg,fun i v hi=>(h.2.2 i v hi).chgN hc hb hb' ht ht2⟩
theorem QHeap.ext{B k:Nat}{w w':World}{hv:Value}{d:Array Nd}(h:QHeap B k w hv d)(he:Ext w w'):QHeap B k w' hv d:=by
 obtain⟨vs,h1,h2,h3,h4⟩:=h;exact⟨vs,h1,h2,ownsRow_ext h3 he,fun i v hi=>(h4 i v hi).ext he⟩
theorem QHeap.chgO{B k g:Nat}{w w':World}{hv:Value}{d:Array Nd}{t:TypeId}{cs cs':Array Value}(h:QHeap B k w hv d)(hc:Chg g w w')(hb:Bx t w g cs)(hb':Bx t w' g cs')(ht:t≠61)(ht2:t≠3)(hg:hv.ownBlock≠some g):QHeap B k w' hv d:=by
 obtain⟨vs,h1,h2,h3,h4⟩:=h;exact⟨vs,h1,h2,h3.kept hc (.inr hg),fun i v hi=>(h4 i v hi).chgN hc hb hb' ht ht2⟩
theorem sinkP_calls(B k p g cap m:Nat)(best:Bool)(rest vs1:List Value)(d:Array Nd)(w:World)(hp:Bx 58 w p #[.int .i64 (ordV best),.slice (some ⟨g,0,none⟩) m cap])(hd:Nds B k g rest w vs1 (d.set! 0 d[m]!))(hm:d.size=m+1)
  (hh:HpFrom best d 0) (hBg:B≤g) (hcc:m+1≤cap) (hcm:cap≤9223372036854775807) (hl:vs1.length*5+rest.length=cap*5) (hk:k≤LIM) (hk2:k≤34359738368) (hn:m≤35184372088832):
  Calls Tryz.prog 29 #[.pointer (some ⟨p,0,none⟩),.int .i64 0] w fun e w'=>e= .returned (.tuple #[])∧Chg g w w'∧∃d',QHeap B k w' (.slice (some ⟨g,0,none⟩) m cap) d'∧HpFrom best d' 0∧(d[0]! ::d'.toList).Perm d.toList∧d'.size=m:=by
 have hds:(d.set! 0 d[m]!).size=m+1:=by rw[Array.size_set!,hm]
 obtain⟨vs',rest',hN,hlen⟩:=hd.drop hds
 have hps:((d.set! 0 d[m]!).pop).size=m:=by rw[Array.size_pop,hds];rfl
 have hpp:=pop_perm hm
 rcases Nat.eq_zero_or_pos m with h0 |h0
 ·subst h0;refine(sink0_calls p _ _ cap w hp).mono ?_;rintro e w' ⟨rfl,he⟩;refine⟨rfl,he.chg g,_,hold_qheap (hN.ext he) hBg hps (by omega) hcm (by omega),?_,hpp,hps⟩;intro j hj0 hj
  omega
 ·have hpop:=hh.pop (by omega);rw[show d.size - 1=m by omega]at hpop;obtain⟨d1,hd1⟩:∃d1,d1=(d.set! 0 d[m]!).pop:=⟨_,rfl⟩;rw[←hd1]at hN hps hpp hpop;rw[←hps]at hp;refine(sink_calls B k p g cap 0 0 best rest' vs' d1 w hp hN hpop (Nat.le_refl _) (by omega) (by omega) hk hk2).mono ?_;rintro e w' ⟨rfl,hc,vs2,d2,n2,h2,p2,s2⟩;have hv2:=n2.1;have hv1:=hN.1;exact⟨rfl,hc,d2,hold_qheap n2 hBg (s2.trans hps) (by omega) hcm (by rw[hv2,s2,←hv1];omega),h2,(List.Perm.cons _ p2).trans hpp,s2.trans hps⟩
set_option maxHeartbeats 8000000 in
theorem pop_some(B k p:Nat)(best:Bool)(hv:Value)(d:Array Nd)(w:World)(hp:Bx 58 w p #[.int .i64 (ordV best),hv])(hq:QHeap B k w hv d)(hh:HpFrom best d 0)(hk:k≤LIM)(hk2:k≤34359738368)(hn:d.size≤35184372088832)(h0:0<d.size):
  Calls Tryz.prog 11 #[.pointer (some ⟨p,0,none⟩)] w fun e w'=>∃va,e= .returned (.tuple #[va,.bool true])∧NdV B k w' va d[0]! ∧ChgS (p::blks hv) w w'∧∃hv' d',Bx 58 w' p #[.int .i64 (ordV best),hv']∧QHeap B k w' hv' d'∧HpFrom best d' 0∧(d[0]! ::d'.toList).Perm d.toList∧d'.size+1=d.size∧hv'.ownBlock=hv.ownBlock:=by
 obtain⟨vs,hvl,h5,hown,hnd⟩:=hq;obtain⟨m,hm⟩:∃m,d.size=m+1:=⟨d.size - 1,by omega⟩;rw[hm]at hown;obtain⟨g,cap,rest,rfl,hBg,hcc,hcm,hl,hold⟩:=ownsRow_hold hown h5 (hvl.trans hm)
 have hpg:p≠g:=by
  rintro rfl;have h1:=hold.2;unfold Bx at h1 hp;rw[h1]at hp
  simp at hp
 have hnds:Nds B k g rest w vs d:=⟨hvl,hold,hnd⟩;obtain⟨b0,a1,n1,c1,a2,n2,c2,hv0,hcell0,hnd0⟩:=hnds.at (i:=0) (by omega);obtain⟨b3,a3,n3,c3,a4,n4,c4,hvm,hcellm,hndm⟩:=hnds.at (i:=m) (by omega);have hpl:=hp.lt;have hgl:=blk_lt hold.2;obtain⟨x0,hx0⟩:∃x,x=d[0]! :=⟨_,rfl⟩;obtain⟨xm,hxm⟩:∃x,x=d[m]! :=⟨_,rfl⟩;rw[←hx0]at hv0 hcell0 hnd0 ⊢;rw[←hxm]at hvm hcellm hndm;obtain⟨i0,d0,q0⟩:=x0;obtain⟨im,dm,qm⟩:=xm
 simp only at hv0 hvm hcell0 hcellm
 obtain⟨w0,hw0,e0,bz,s0⟩:=alloc1 w #[.int .i64 0,.int .i64 0,.bool false,.slice none 0 0,.slice none 0 0] 38;obtain⟨w1,hw1,e1,bn,s1⟩:=alloc1 w0 #[.int .i64 i0,.int .i64 d0,.bool b0,.slice a1 n1 c1,.slice a2 n2 c2] 38;have E1:=e0.trans e1;have P1:=hp.ext E1;have hcp:=(hp.ext e0).cell 1;have hg0:=hcell0 w0 e0 0 _ rfl;have hg1:=hcell0 w0 e0 1 _ rfl;have hg2:=hcell0 w0 e0 2 _ rfl;have hg3:=hcell0 w0 e0 3 _ rfl;have hg4:=hcell0 w0 e0 4 _ rfl;have hcp1:=P1.cell 1
 have hw2:w1=(w.alloc (.cells #[.int .i64 0,.int .i64 0,.bool false,.slice none 0 0,.slice none 0 0] 38)).alloc (.cells #[.int .i64 i0,.int .i64 d0,.bool b0,.slice a1 n1 c1,.slice a2 n2 c2] 38):=by rw[hw1,hw0]
 rw[hw0]at hcp hg0 hg1 hg2 hg3 hg4;rw[hw2]at hcp1;simp only[Nat.zero_mul,Nat.zero_add]at hg0 hg1 hg2 hg3 hg4;have BZ:=Lib.hid (bz.ext e1);have BN:=Lib.hid bn;have HN1:=Lib.hid (hnds.ext E1);have HV0:=Lib.hid hv0;have HVM:=Lib.hid hvm;have HC:=Lib.hid (show∀wz,Ext w1 wz→_ from fun wz hz=>hcellm wz (E1.trans hz));have HND0:=Lib.hid hnd0;have HNDM:=Lib.hid hndm;have HX0:=Lib.hid hx0;have HXM:=Lib.hid hxm;have HH:=Lib.hid hh;have HM:=Lib.hid hm;have HL:=Lib.hid hl;have HVL:=Lib.hid hvl
 have hml:(m:Int)<(m:Int)+1:=by omega
 have hcap:m≤cap:=by omega
 rw[s0]at bn BN;clear hw0 hw1 bz bn hnds hv0 hvm hcell0 hcellm hnd0 hndm hx0 hxm hh hm hold hown hnd h5 hvl hp hl
 have hmn:m≤35184372088832:=by have:=HM.out;omega
 go_enter Tryz.func11,Tryz.ntmps11
 go_wp2_with fail;rw[←hw2];clear hw2
 refine wp_region_set g (m+1) 0 12 rest vs (.agg #[.int .i64 im,.int .i64 dm,.bool b3,.slice a3 n3 c3,.slice a4 n4 c4]) [PP.val (.pointer (some ⟨p,0,none⟩)),PP.val (.pointer (some ⟨p,0,none⟩)),PP.val (.pointer (some ⟨p,1,none⟩)),PP.val (.slice (some ⟨g,0,none⟩) (m+1) cap),PP.val (.pointer (some ⟨p,0,none⟩)),PP.val (.pointer (some ⟨p,0,none⟩)),PP.val (.pointer (some ⟨p,1,none⟩)),PP.val (.slice (some ⟨g,0,none⟩) (m+1) cap),PP.val (.int .i64 (m:Int)),PP.val (.pointer (some ⟨g,m*5,none⟩)),PP.val (.agg #[.int .i64 im,.int .i64 dm,.bool b3,.slice a3 n3 c3,.slice a4 n4 c4]),PP.val (.pointer (some ⟨g,0*5,none⟩)),PP.any] [] [12,11,10,9,8,7,6,5,4,3,2,1,0] (by kernel_rfl) (by kernel_rfl) (fun f=>(by simp only[fillR,fillL,List.setIfInBounds_toArray,List.set_cons_succ,List.set_cons_zero,Nat.reduceAdd];rfl)) (HVL.out.trans HM.out) HN1.out.2.1 (by omega) (by intro p hp;simp only[List.mem_cons,List.not_mem_nil,or_false]at hp;rcases hp with rfl |rfl |rfl |rfl |rfl |rfl |rfl |rfl |rfl |rfl |rfl |rfl |rfl<;>rfl) ?_ ?_ (by decide)
 ·refine⟨?_,?_,?_,?_,?_,?_,?_,?_,?_,?_,?_,?_,?_,trivial⟩
  ·intro f w2 hG hp hl;simp only[OpGoal];go_simp;exact⟨_,rfl,Ext.refl _,rfl⟩
  ·intro f w2 hG hp hl
   have q25:f 0= .pointer (some ⟨p,0,none⟩):=tellM hp 0 0 rfl rfl
   simp only[OpGoal];go_simp;exact⟨_,rfl,Ext.refl _,rfl⟩
  ·intro f w2 hG hp hl
   have q26:f 1= .pointer (some ⟨p,0,none⟩):=tellM hp 0 1 rfl rfl
   simp only[OpGoal];go_simp;exact⟨_,rfl,Ext.refl _,rfl⟩
  ·intro f w2 hG hp hl;have hE:Ext w1 w2:=hG
   have q27:f 2= .pointer (some ⟨p,1,none⟩):=tellM hp 0 2 rfl rfl
   have hcell:=(P1.ext hE).cell 1;simp only[OpGoal];go_simp;exact⟨_,rfl,Ext.refl _,rfl⟩
  ·intro f w2 hG hp hl;simp only[OpGoal];go_simp;exact⟨_,rfl,Ext.refl _,rfl⟩
  ·intro f w2 hG hp hl
   have q29:f 4= .pointer (some ⟨p,0,none⟩):=tellM hp 0 4 rfl rfl
   simp only[OpGoal];go_simp;exact⟨_,rfl,Ext.refl _,rfl⟩
  ·intro f w2 hG hp hl
   have q30:f 5= .pointer (some ⟨p,0,none⟩):=tellM hp 0 5 rfl rfl
   simp only[OpGoal];go_simp;exact⟨_,rfl,Ext.refl _,rfl⟩
  ·intro f w2 hG hp hl;have hE:Ext w1 w2:=hG
   have q31:f 6= .pointer (some ⟨p,1,none⟩):=tellM hp 0 6 rfl rfl
   have hcell:=(P1.ext hE).cell 1;simp only[OpGoal];go_simp;exact⟨_,rfl,Ext.refl _,rfl⟩
  ·intro f w2 hG hp hl;simp only[OpGoal];go_simp;exact⟨_,rfl,Ext.refl _,rfl⟩
  ·intro f w2 hG hp hl
   have q32:f 7= .slice (some ⟨g,0,none⟩) (m+1) cap:=tellM hp 0 7 rfl rfl
   have q33:f 8= .int .i64 (m:Int):=tellM hp 1 8 rfl rfl
   simp only[OpGoal];go_simp;exact⟨_,rfl,Ext.refl _,rfl⟩
  ·intro f w2 hG hp hl;have hE:Ext w1 w2:=hG
   have q34:f 9= .pointer (some ⟨g,m*5,none⟩):=tellM hp 0 9 rfl rfl
   change OpGoal _ _ _ f w2 Ext _;exact og_loadAt (P:=Tryz.prog) _ _ g (m*5) _ _ rfl rfl q34 (fun j v h=>HC.out _ hE j v h) Tryz.underlying38 rfl (by kernel_rfl) rfl
  ·intro f w2 hG hp hl
   have q28:f 3= .slice (some ⟨g,0,none⟩) (m+1) cap:=tellM hp 0 3 rfl rfl
   simp only[OpGoal];go_simp;exact⟨_,rfl,Ext.refl _,rfl⟩
  ·intro f w2 hG hp hl;have hE:Ext w1 w2:=hG;have hS:=hE.size
   have q36:f 11= .pointer (some ⟨g,0*5,none⟩):=tellM hp 0 11 rfl rfl
   have q35:f 10= .agg #[.int .i64 im,.int .i64 dm,.bool b3,.slice a3 n3 c3,.slice a4 n4 c4]:=tellM hp 1 10 rfl rfl
   intro hI hU;exact og_stN (P:=Tryz.prog) g (m+1) _ _ 12 0 _ _ _ _ _ _ rfl rfl q36 q35 (by omega) (by kernel_rfl) HNDM.out.five hI
 ·intro f w2 hC hW hp;clear hp;have HN2:=Lib.hid (HN1.out.put hC (by have:=HM.out;omega) HVM.out hW);have P2:=P1.chg hC hpg;have hcq:=P2.cell 1;have hfq:=P2.free 1;have BZ2:=Lib.hid (BZ.out.chg hC (by omega));have BN2:=Lib.hid (BN.out.chg hC (by omega));have HND2:=Lib.hid ((HND0.out.ext E1).chgN hC HN1.out.2.1.2 hW.2 (by decide) (by decide));have hch2:=Lib.hid ((E1.chgS (p::blks (.slice (some ⟨g,0,none⟩) (m+1) cap))).stepC hC (.inl (by simp[blks,Value.ownBlock])));clear hcp hcp1 hg0 hg1 hg2 hg3 hg4 hW;go_wp2_with fail;obtain⟨w3,hw3⟩:∃w3,w3=w2.setCell ⟨p,1,none⟩ (.slice (some ⟨g,0,none⟩) m cap):=⟨_,rfl⟩;rw[←hw3]
  have P3:Bx 58 w3 p #[.int .i64 (ordV best),.slice (some ⟨g,0,none⟩) m cap]:=by rw[hw3];exact P2.set 1 _
  have c3:Chg p w2 w3:=by rw[hw3];exact Chg.setCell _ p 1 _
  have HN3:=HN2.out.chgP c3 P2 P3 (by decide) (by decide) (Ne.symm hpg);have HND3:=HND2.out.chgN c3 P2 P3 (by decide) (by decide);have BN3:=BN2.out.chg c3 (by omega);have BZ3:=BZ2.out.chg c3 (by omega);have s3:=c3.size;have sC:=hC.size;clear hw3 hcq hfq;refine(sinkP_calls B k p g cap m best rest _ d w3 P3 HN3 HM.out HH.out hBg hcc hcm (by rw[List.length_set];exact HL.out) hk hk2 hmn).mono ?_;rintro e w4 ⟨rfl,c4,d',qh,hh',hperm,hsz⟩;have P4:=P3.chg c4 hpg;have BN4:=BN3.chg c4 (by omega);have BZ4:=BZ3.chg c4 (by omega);obtain⟨vsq,qs1,qs2,qs3,qs4⟩:=id qh
  have HND4:=Lib.hid (show NdV B k w4 _ _ from by
   rcases qs3.2 with⟨h1,h2⟩ |⟨g',cap',cur,h1,h2,h3,h4⟩
   ·cases h1
   ·cases h1
    exact HND3.chgN c4 HN3.2.1.2 h3 (by decide) (by decide))
  have HQ:=Lib.hid qh;have HH4:=Lib.hid hh';have HPm:=Lib.hid hperm;have HSz:=Lib.hid hsz;have HP4:=Lib.hid P4;have hch4:=Lib.hid ((hch2.out.stepC c3 (.inl (by simp))).stepC c4 (.inl (by simp[blks,Value.ownBlock])));clear qh hh' hperm hsz P4 qs1 qs2 qs3 qs4;have hd0:=BN4.cell 0;have hd1:=BN4.cell 1;have hd2:=BN4.cell 2;have hd3:=BN4.cell 3;have hd4:=BN4.cell 4;have hb:=BZ4;have hc0:=hb.cell 0;have hf0:=hb.free 0;have hc1:=hb.cell 1;have hf1:=hb.free 1;have hc2:=hb.cell 2;have hf2:=hb.free 2;have hc3:=hb.cell 3;have hf3:=hb.free 3;have hc4:=hb.cell 4;have hf4:=hb.free 4;go_wp2;refine ret_box2 2 3 38 w.heap.size 38 _ _ _ (by kernel_rfl) rfl rfl (((((hb.set 0 _).set 1 _).set 2 _).set 3 _).set 4 _) Tryz.underlying38 rfl (by kernel_rfl) rfl ?_;have c5:=Lib.hid ((((Chg.setCell w4 w.heap.size 0 (.int .i64 i0)).trans (Chg.setCell _ w.heap.size 1 (.int .i64 d0))).trans (Chg.setCell _ w.heap.size 2 (.bool b0))).trans (Chg.setCell _ w.heap.size 3 (.slice a1 n1 c1)) |>.trans (Chg.setCell _ w.heap.size 4 (.slice a2 n2 c2)));have B5:=((((hb.set 0 (.int .i64 i0)).set 1 (.int .i64 d0)).set 2 (.bool b0)).set 3 (.slice a1 n1 c1)).set 4 (.slice a2 n2 c2);refine⟨_,rfl,HND4.out.chgN c5.out BZ4 B5 (by decide) (by decide),hch4.out.stepC c5.out (.inr (Nat.le_refl _)),_,d',HP4.out.chg c5.out (by omega),HQ.out.chgO c5.out BZ4 B5 (by decide) (by decide) (by simp[Value.ownBlock];omega),HH4.out,by rw[HX0.out];exact HPm.out,by rw[HSz.out,HM.out],rfl⟩
end Go.Proofs.YthoibjnkhkjnjaaGreat
