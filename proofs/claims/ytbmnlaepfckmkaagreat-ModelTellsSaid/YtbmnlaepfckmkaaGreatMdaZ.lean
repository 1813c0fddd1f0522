/-
 A region that draws its order: one operation changes one block (an append), a later one stores its value into another block; plain.
-/
import Derived.Test.YtbmnlaepfckmkaaGreatSsbZ
import Derived.Test.YtbmnlaepfckmkaaGreatCmaZ
import Derived.Test.YtbmnlaepfckmkaaGreatCnaZ
import Derived.Test.YtbmnlaepfckmkaaGreatPlaZ
import Derived.Test.YtbmnlaepfckmkaaGreatVrfZ
import Derived.Test.YtbmnlaepfckmkaaGreatCnlZ
namespace Go.Proofs.YtbmnlaepfckmkaaGreat
set_option maxRecDepth 100000
set_option maxHeartbeats 1000000
open Go.RowKit
set_option linter.unusedVariables false
set_option linter.unusedSimpArgs false
theorem grown_trans{row:Option Nat}{a b c:World}(h:a.grownBy b row)(k:b.grownBy c row):a.grownBy c row:=by
 cases row with
 |none=>exact Ext.trans h k
 |some g=>exact Chg.trans h k
theorem ext_grown{a b:World}(row:Option Nat)(h:Ext a b):a.grownBy b row:=by
 cases row with
 |none=>exact h
 |some g=>exact h.chg g
theorem grown_chgS{row:Option Nat}{a b:World}(g:Nat)(h:a.grownBy b row):ChgS (row.toList++ [g]) a b:=by
 cases row with
 |none=>exact Ext.chgS _ h
 |some g'=>exact Chg.chgS (g:=g') h (by simp)
theorem grown_ext{row:Option Nat}{g:Nat}{a b:World}(h:a.grownBy b row)(k:Chg g a b)(hne:∀r,row=some r→r≠g):Ext a b:=by
 cases row with
 |none=>exact h
 |some r=>
  refine⟨World.grownBy.os h,World.grownBy.tape h,World.grownBy.output h,Chg.size h,fun j hj _=> ?_⟩
  by_cases e:j=r
  ·exact Chg.heap k hj (by have:=hne r rfl;omega)
  ·exact Chg.heap h hj e
def OweH{S:Nat}(P:Program)(fr:(Nat→Value)→Array Value)(df:List Deferred)(w:World)(row:Option Nat)(gG s1 s2:Nat)(F G2:Value→World→Prop)(L:List (PP S))(lates:List (Nat×Nat×Nat))(tmps:Array Value)(pre:List Nat)(k:Nat)(o:Oper):Prop:=
 ∀f w1,(if pre.contains k then Ext w w1 else if k=s2 then ChgS row.toList w w1 else ChgS (row.toList++ [gG]) w w1)→PostsOf (postO s1 F L) f w1 o.after.toList→LateFacts tmps f k lates→
  match opt2 k s1 s2 with
  |some true=>OpGoal P o ⟨fr f,df⟩ f w1 (fun a b=>a.grownBy b row) F
  |some false=>OpGoal P o ⟨fr f,df⟩ f w1 (Chg gG) (fun _ w2=>G2 (f s1) w2)
  |none=>OpGoal P o ⟨fr f,df⟩ f w1 Ext (L.getD k PP.any).p
def OwesH{S:Nat}(P:Program)(fr:(Nat→Value)→Array Value)(df:List Deferred)(w:World)(row:Option Nat)(gG s1 s2:Nat)(F G2:Value→World→Prop)(L:List (PP S))(lates:List (Nat×Nat×Nat))(tmps:Array Value)(pre:List Nat):List Oper→Nat→Prop
 | [],_=>True
 |o::l,k=>OweH P fr df w row gG s1 s2 F G2 L lates tmps pre k o∧OwesH P fr df w row gG s1 s2 F G2 L lates tmps pre l (k+1)
theorem owesH_at{S:Nat}{P:Program}{fr:(Nat→Value)→Array Value}{df:List Deferred}{w:World}{row:Option Nat}{gG s1 s2:Nat}{F G2:Value→World→Prop}{L:List (PP S)}{lates:List (Nat×Nat×Nat)}{tmps:Array Value}{pre:List Nat}:
  ∀(l:List Oper) (k:Nat),OwesH P fr df w row gG s1 s2 F G2 L lates tmps pre l k→∀i o,l[i]? =some o→OweH P fr df w row gG s1 s2 F G2 L lates tmps pre (k+i) o
 | [],_,_,i,o,h=>by simp at h
 |x::l,k,hs,i,o,h=>by
  cases i with
  |zero=>
   simp only[List.getElem?_cons_zero,Option.some.injEq]at h;subst h;exact hs.1
  |succ i=>
   have:=owesH_at l (k+1) hs.2 i o (by simpa using h)
   rwa [show k+1+i=k+(i+1)by omega]at this
theorem pp_grown{S:Nat}(p:PP S)(hc:p.c=false){row:Option Nat}(hA:∀g,row=some g→g<S){v:Value}{w1 w2:World}(h:w1.grownBy w2 row)(hp:p.p v w1):p.p v w2:=by
 cases row with
 |none=>exact p.m _ _ _ h hp
 |some g=>exact p.m2 hc g (hA g rfl) _ _ _ h hp
theorem wp_region_hand{P:Program}{id:Nat}{l:List Oper}{Q:Exit→Act→World→Prop}{tmps:Array Value}{df:List Deferred}{w:World}{fr:(Nat→Value)→Array Value}
  (row:Option Nat) (gG s1 s2:Nat) (F G2:Value→World→Prop) (L:List (PP w.heap.size)) (lates:List (Nat×Nat×Nat)) (pre:List Nat)
  (hm:P.follows .mixedOrders=true) (hok:(regOk l.toArray tmps.size&&lateOk l.toArray lates&&ancOk l.toArray [s1] (pre.filter (· !=s1))&&ancOk l.toArray [s2] (s1::pre.filter (· !=s1)))=true)
  (hfr:∀f,fillR l.toArray tmps f=fr f)
  (hss:s1≠s2) (hA:∀g,row=some g→g<w.heap.size∧g≠gG) (hGl:gG<w.heap.size)
  (hF:∀u w1 w2,Ext w1 w2→F u w1→F u w2) (hFG:∀u w1 w2,Chg gG w1 w2→F u w1→F u w2) (hG2:∀u w1 w2,Ext w1 w2→G2 u w1→G2 u w2)
  (hL:∀p∈L,p.c=false) (hL2:∀v w,(L.getD s2 PP.any).p v w)
  (hstep:OwesH P fr df w row gG s1 s2 F G2 L lates tmps pre l 0)
  (hend:∀f w1,ChgS (row.toList++ [gG]) w w1→F (f s1) w1→G2 (f s1) w1→AllPosts (postO s1 F L) f w1 l.length 0→Q .normal ⟨fr f,df⟩ w1)
  (hs1:s1<l.length) (hs2:s2<l.length):
  (Code.region id l.toArray true).wp P Q ⟨tmps,df⟩ w:=by
 simp only[Bool.and_eq_true]at hok;obtain⟨⟨⟨hok1,hok2⟩,hok3⟩,hok4⟩:=hok
 have hLk:∀k,(L.getD k PP.any).c=false:=fun k=>by
  by_cases hk:k<L.length
  ·rw[List.getD,List.getElem?_eq_getElem hk];exact hL _ (List.getElem_mem hk)
  ·rw[List.getD,List.getElem?_eq_none (by omega)]
   rfl
 have hself:∀s,∀j∈ [s],Anc l.toArray j s:=fun s j hj=>by
  have:j=s:=by simpa using hj
  rw[this];exact .self
 have hanc2:Anc l.toArray s1 s2:=anc_of _ [s2] (hself s2) hok4 s1 (List.mem_cons_self ..)
 have hrow:∀g,row=some g→g<w.heap.size:=fun g h=>(hA g h).1
 have hsz:∀{a b:World},a.grownBy b row→a.heap.size≤b.heap.size:=fun h=>World.grownBy.size h
 refine wp_region_posts (D:=fun listed f b=>listed s2=true→listed s1=true∧G2 (f s1) b) (G:=fun a b=>ChgS (row.toList++ [gG]) a b) (G0:=fun s a b=>(s=s1→Chg gG a b)∧(s=s2→a.grownBy b row))
  (R:=fun i w1 w2=>if i=s1 then w1.grownBy w2 row else if i=s2 then Chg gG w1 w2 else Ext w1 w2) (post:=postO s1 F L) hm hok1 (fun _ h=>by cases h) ((Ext.refl w).drew.chgS _) (fun s=>⟨fun _=>((Ext.refl w).drew).chg gG,fun _=>ext_grown row (Ext.refl w).drew⟩) ?_ ?_ ?_ ?_ ?_
 ·intro i w1 w2 hG hR
  by_cases hi:i=s1
  ·simp only[hi,if_true]at hR;exact hG.trans (grown_chgS gG hR)
  ·by_cases h2:i=s2
   ·subst h2;simp only[hi,if_false,if_true]at hR;exact hG.trans (hR.chgS (by simp))
   ·simp only[hi,h2,if_false]at hR;exact hG.trans (hR.chgS _)
 ·rintro s i w1 w2 his ⟨h1,h2⟩ hR
  by_cases hi:i=s1
  ·subst hi;simp only[if_true]at hR;exact⟨fun e=>absurd e.symm his,fun e=>grown_trans (h2 e) hR⟩
  ·by_cases hi2:i=s2
   ·subst hi2;simp only[hi,if_false,if_true]at hR;exact⟨fun e=>(h1 e).trans hR,fun e=>absurd e.symm his⟩
   ·simp only[hi,hi2,if_false]at hR;exact⟨fun e=>(h1 e).trans (hR.chg gG),fun e=>grown_trans (h2 e) (ext_grown row hR)⟩
 ·intro i j v w1 w2 hij hG hR hp;unfold postO at hp ⊢
  by_cases hj:j=s1
  ·simp only[hj,if_true]at hR
   have hi:i≠s1:=fun h=>hij (by rw[h,hj])
   simp only[hi,if_false]at hp ⊢;exact pp_grown _ (hLk i) hrow hR hp
  ·by_cases hj2:j=s2
   ·simp only[hj,if_false]at hR;simp only[hj2,if_true]at hR
    by_cases hi:i=s1
    ·simp only[hi,if_true]at hp ⊢;exact hFG _ _ _ hR hp
    ·simp only[hi,if_false]at hp ⊢;exact(L.getD i PP.any).m2 (hLk i) _ hGl _ _ _ hR hp
   ·simp only[hj,hj2,if_false]at hR
    by_cases hi:i=s1
    ·simp only[hi,if_true]at hp ⊢;exact hF _ _ _ hR hp
    ·simp only[hi,if_false]at hp ⊢;exact(L.getD i PP.any).m _ _ _ hR hp
 ·intro i o ho listed f w1 hli hbefore hD hG hpre hp hl;have hO:=owesH_at l 0 hstep i o (by simpa using ho);rw[Nat.zero_add]at hO;rw[hfr]
  have hEE:(if pre.contains i then Ext w w1 else if i=s2 then ChgS row.toList w w1 else ChgS (row.toList++ [gG]) w w1):=by
   split
   ·rename_i hpi
    have h1:Anc l.toArray i s1:=by
     by_cases his:i=s1
     ·rw[his];exact .self
     ·exact anc_of _ [s1] (hself s1) hok3 i (List.mem_filter.2 ⟨by simpa using hpi,by simpa using his⟩)
    have h2:Anc l.toArray i s2:=by
     by_cases his:i=s1
     ·rw[his];exact hanc2
     ·exact anc_of _ [s2] (hself s2) hok4 i (List.mem_cons_of_mem _ (List.mem_filter.2 ⟨by simpa using hpi,by simpa using his⟩))
    exact grown_ext ((hpre s2 h2).2 rfl) ((hpre s1 h1).1 rfl) fun r hr=>(hA r hr).2
   ·split
    ·rename_i h2
     subst h2
     have:=(hpre i .self).2 rfl
     cases row with
     |none=>exact Ext.chgS _ this
     |some g=>exact Chg.chgS (g:=g) this (by simp)
    ·exact hG
  have hg:=hO f w1 hEE (postsOf_of _ fun e he hb=>hp e (Array.mem_toList_iff.1 he) hb) (lateFacts_of hl lates hok2);unfold postO
  by_cases h1:i=s1
  ·subst h1;simp only[opt2,if_true]at hg;refine OpGoal.mono (fun w' h=>by simp only[if_true];exact h) (fun v w' _ h=>⟨by simp only[if_true];exact h,fun h2=> ?_⟩) (fun h=>⟨by simp only[if_true];exact h,fun h2=> ?_⟩) hg
   ·simp only[Ne.symm hss,if_false]at h2
    have:=(hD h2).1
    rw[hli]at this
    cases this
   ·simp only[Ne.symm hss,if_false]at h2
    have:=(hD h2).1
    rw[hli]at this
    cases this
  ·by_cases h2:i=s2
   ·subst h2;simp only[opt2,h1,if_false,if_true]at hg;have hb:=hbefore s1 hanc2 hss;refine OpGoal.mono (fun w' h=>by simp only[h1,if_false,if_true];exact h) (fun v w' _ h=>⟨by simp only[h1,if_false];exact hL2 v w',fun _=> ?_⟩) (fun h=>⟨by simp only[h1,if_false];exact hL2 undef w1,fun _=> ?_⟩) hg
    ·simp only[hss,if_false];exact⟨hb,h⟩
    ·simp only[hss,if_false];exact⟨hb,h⟩
   ·simp only[opt2,h1,h2,if_false]at hg;refine OpGoal.mono (fun w' h=>by simp only[h1,h2,if_false];exact h) (fun v w' hR' h=>⟨by simp only[h1,if_false];exact h,fun h3=> ?_⟩) (fun h=>⟨by simp only[h1,if_false];exact h,fun h3=> ?_⟩) hg
    ·simp only[Ne.symm h2,if_false]at h3;simp only[Ne.symm h1,if_false];obtain⟨k1,k2⟩:=hD h3;exact⟨k1,hG2 _ _ _ hR' k2⟩
    ·simp only[Ne.symm h2,if_false]at h3;simp only[Ne.symm h1,if_false];exact hD h3
 ·intro f w1 hG hp hd;obtain⟨listed,hall,hd⟩:=hd;rw[hfr];have hF1:=hp s1 (by simpa using hs1);unfold postO at hF1;rw[if_pos rfl]at hF1;exact hend f w1 hG hF1 (hd (hall s2 (by simpa using hs2))).2 (allPosts_of _ _ fun i _ hi=>hp i (by simpa using hi))
theorem tellOS{S:Nat}{w1:World}{s1:Nat}{F:Value→World→Prop}{L:List (PP S)}{f:Nat→Value}{l:List Edge}(hp:PostsOf (postO s1 F L) f w1 l)(n:Nat)
  (h:(match l[n]? with |some e=>Region.binds .any e&&e.on==s1 |none=>false)=true):F (f s1) w1:=by
 have:=postsOf_nth l n s1 h hp
 unfold postO at this;rw[if_pos rfl]at this;exact this
theorem run_store1{P:Program}(w:World)(g off:Nat)(t ty:TypeId)(cur:List Value)(ad:Option Addr)(n c:Nat)(hg:w.heap[g]? =some (.cells cur.toArray t (0,0)))(hi:(P.info? ty).map (·.size)=some 1)(hfit:off<cur.length):
  (storeVar ty ⟨g,off,none⟩ (.slice ad n c)).run P w= .ok () (w.setRow g (cur.set off (.slice ad n c)).toArray):=by
 have hst:=run_storeCells_at P g off t [.slice ad n c] 0 cur.toArray w hg (by simp;omega) (fun u hu=>by
  rw[List.mem_singleton]at hu;subst hu
  rfl)
 cases hq:P.info? ty with
 |none=>simp [hq]at hi
 |some i=>
  have hs:i.size=1:=by simpa[hq]using hi
  have hc:(Value.slice ad n c).cells=#[.slice ad n c]:=rfl
  have hset:cur.set off (.slice ad n c)=cur.take off++ .slice ad n c::cur.drop (off+1):=by rw[List.set_eq_take_append_cons_drop,if_pos hfit]
  simp only[Nat.add_zero]at hst
  simp[storeVar,sizeOf,typeInfo,hq,hc,hs,hset,hst]
theorem og_store1{P:Program}{o:Oper}{a:Act}{f:Nat→Value}{w:World}{post:Value→World→Prop}(g c:Nat)(t ty:TypeId)(cur:List Value)(ad:Option Addr)(n m:Nat)(x y:Operand)(hgd:o.guard=none)(ho:o.op= .store ty x y)(hx:a.eval x= .pointer (some ⟨g,c,none⟩))(hy:a.eval y= .slice ad n m)
  (hty:(P.info? ty).map (·.size)=some 1) (hb:Bx t w g cur.toArray) (hc:c<cur.length) (h:∀w',Bx t w' g (cur.set c (.slice ad n m)).toArray→∀u,post u w'):OpGoal P o a f w (Chg g) post:=by
 have hrun:=run_store1 (P:=P) w g c t ty cur ad n m hb hty hc;unfold OpGoal;rw[hgd];unfold Oper.wp execOp;simp only[ho,hx,hy,Instr.storeAt,Instr.sureAddr,Sem.run_bind,Sem.run_pure,Result.andThen_ok,hrun];exact⟨_,rfl,Chg.setRow w g _,h _ (Bx.setRow hb _) _⟩
abbrev SpR:=Bool×Bool×Rat×Rat
abbrev RwR:=SpR×List (Int×Rat)
abbrev VrR:=Bool×SpR×Rat
def inB(s:SpR)(x:Rat):Bool:=!((s.1&&decide (x<s.2.2.1)) || (s.2.1&&decide (s.2.2.2<x)))
theorem cmp_lt(x y:Rat):decide (cmpR x y<0)=decide (x<y):=by
 rw[decide_eq_decide];unfold cmpR
 split
 ·simp_all
 ·split<;>simp_all
theorem cmp_gt(x y:Rat):decide (0<cmpR x y)=decide (y<x):=by
 rw[decide_eq_decide];unfold cmpR
 by_cases h1:x<y
 ·rw[if_pos h1];exact⟨fun h=>by omega,fun h=>absurd h (by grind)⟩
 ·rw[if_neg h1]
  by_cases h2:x=y
  ·rw[if_pos h2];exact⟨fun h=>by omega,fun h=>absurd h (by grind)⟩
  ·rw[if_neg h2];exact⟨fun _=>by grind,fun _=>by omega⟩
structure QC where
 b:Bool
 a1:Option Addr
 n1:Nat
 c1:Nat
 a2:Option Addr
 n2:Nat
 c2:Nat
def qv(q:QC):Value:= .agg #[.bool q.b,.slice q.a1 q.n1 q.c1,.slice q.a2 q.n2 q.c2]
theorem IsR.qc{w:World}{v:Value}{x:Rat}{k:Nat}(h:IsR w v x k):∃q,v=qv q:=by
 obtain⟨b,a1,n1,c1,a2,n2,c2,rfl⟩:=h.parts;exact⟨⟨b,a1,n1,c1,a2,n2,c2⟩,rfl⟩
def SpV(k:Nat)(w:World)(l h:QC)(s:SpR):Prop:=IsR w (.agg #[.bool l.b,.slice l.a1 l.n1 l.c1,.slice l.a2 l.n2 l.c2]) s.2.2.1 k∧IsR w (.agg #[.bool h.b,.slice h.a1 h.n1 h.c1,.slice h.a2 h.n2 h.c2]) s.2.2.2 k
def RwV(k:Nat)(w:World)(v:Value)(r:RwR):Prop:=∃(nm:ByteArray) (l h:QC) (ta:Option Addr) (tn tc:Nat),v= .agg #[.string nm,.bool r.1.1,.bool r.1.2.1,.bool l.b,.slice l.a1 l.n1 l.c1,.slice l.a2 l.n2 l.c2,.bool h.b,.slice h.a1 h.n1 h.c1,.slice h.a2 h.n2 h.c2,.slice ta tn tc]∧SpV k w l h r.1∧TL k w (.slice ta tn tc) r.2
def VrV(k:Nat)(w:World)(v:Value)(r:VrR):Prop:=∃(nm:ByteArray) (l h c:QC),v= .agg #[.string nm,.bool r.1,.bool r.2.1.1,.bool r.2.1.2.1,.bool l.b,.slice l.a1 l.n1 l.c1,.slice l.a2 l.n2 l.c2,.bool h.b,.slice h.a1 h.n1 h.c1,.slice h.a2 h.n2 h.c2,.bool c.b,.slice c.a1 c.n1 c.c1,.slice c.a2 c.n2 c.c2]∧SpV k w l h r.2.1∧IsR w (.agg #[.bool c.b,.slice c.a1 c.n1 c.c1,.slice c.a2 c.n2 c.c2]) r.2.2 k
theorem SpV.ext{k:Nat}{w w':World}{l h:QC}{s:SpR}(hh:SpV k w l h s)(he:Ext w w'):SpV k w' l h s:=⟨hh.1.ext he,hh.2.ext he⟩
theorem RwV.ext{k:Nat}{w w':World}{v:Value}{r:RwR}(h:RwV k w v r)(he:Ext w w'):RwV k w' v r:=by
 obtain⟨nm,l,h,ta,tn,tc,hv,hs,ht⟩:=h;exact⟨nm,l,h,ta,tn,tc,hv,hs.ext he,ht.ext he⟩
theorem VrV.ext{k:Nat}{w w':World}{v:Value}{r:VrR}(h:VrV k w v r)(he:Ext w w'):VrV k w' v r:=by
 obtain⟨nm,l,h,c,hv,hs,ht⟩:=h;exact⟨nm,l,h,c,hv,hs.ext he,ht.ext he⟩
def RwL(k:Nat)(w:World)(u:Value)(l:List RwR):Prop:=SL 10 (RwV k) w u l
def VrL(k:Nat)(w:World)(u:Value)(l:List VrR):Prop:=SL 13 (VrV k) w u l
theorem RwL.ext{k:Nat}{w w':World}{u:Value}{l:List RwR}(h:RwL k w u l)(he:Ext w w'):RwL k w' u l:=SL.ext (fun _ _ h=>h.ext he) h he
theorem VrL.ext{k:Nat}{w w':World}{u:Value}{l:List VrR}(h:VrL k w u l)(he:Ext w w'):VrL k w' u l:=SL.ext (fun _ _ h=>h.ext he) h he
abbrev PbR:=List RwR×List VrR
def PbV(k:Nat)(w:World)(v:Value)(p:PbR):Prop:=∃(n0 n1:ByteArray) (ra:Option Addr) (rn rc:Nat) (va:Option Addr) (vn vc:Nat),v= .agg #[.string n0,.string n1,.slice ra rn rc,.slice va vn vc]∧RwL k w (.slice ra rn rc) p.1∧VrL k w (.slice va vn vc) p.2
theorem PbV.ext{k:Nat}{w w':World}{v:Value}{p:PbR}(h:PbV k w v p)(he:Ext w w'):PbV k w' v p:=by
 obtain⟨n0,n1,ra,rn,rc,va,vn,vc,hv,hr,hs⟩:=h;exact⟨n0,n1,ra,rn,rc,va,vn,vc,hv,hr.ext he,hs.ext he⟩
theorem RwL.at{k:Nat}{w:World}{u:Value}{l:List RwR}(h:RwL k w u l):∃ad m cap,m=l.length∧u= .slice ad m cap∧m≤9223372036854775807∧∀(i:Nat) (r:RwR),l[i]? =some r→∃g off,ad=some ⟨g,off,none⟩∧∃(nm:ByteArray) (l h:QC) (ta:Option Addr) (tn tc:Nat),
  (∀wz,Ext w wz→wz.cell? ⟨g,off+i*10,none⟩=some (.string nm)∧wz.cell? ⟨g,off+i*10+1,none⟩=some (.bool r.1.1)∧wz.cell? ⟨g,off+i*10+2,none⟩=some (.bool r.1.2.1)∧wz.cell? ⟨g,off+i*10+3,none⟩=some (.bool l.b)∧wz.cell? ⟨g,off+i*10+4,none⟩=some (.slice l.a1 l.n1 l.c1)∧wz.cell? ⟨g,off+i*10+5,none⟩=some (.slice l.a2 l.n2 l.c2)∧wz.cell? ⟨g,off+i*10+6,none⟩=some (.bool h.b)∧wz.cell? ⟨g,off+i*10+7,none⟩=some (.slice h.a1 h.n1 h.c1)∧wz.cell? ⟨g,off+i*10+8,none⟩=some (.slice h.a2 h.n2 h.c2)∧wz.cell? ⟨g,off+i*10+9,none⟩=some (.slice ta tn tc))∧
  SpV k w l h r.1∧TL k w (.slice ta tn tc) r.2:=by
 obtain⟨ad,m,cap,h1,h2,h3,h4⟩:=h.opn;refine⟨ad,m,cap,h1,h2,h3,fun i c hi=> ?_⟩;obtain⟨g,off,k1,xs,k2,k3,nm,l,h,ta,tn,tc,j1,j2,j3⟩:=h4 i c hi
 cases j1
 exact⟨g,off,k1,nm,l,h,ta,tn,tc,fun wz hz=>⟨k3 wz hz 0 _ rfl,k3 wz hz 1 _ rfl,k3 wz hz 2 _ rfl,k3 wz hz 3 _ rfl,k3 wz hz 4 _ rfl,k3 wz hz 5 _ rfl,k3 wz hz 6 _ rfl,k3 wz hz 7 _ rfl,k3 wz hz 8 _ rfl,k3 wz hz 9 _ rfl⟩,j2,j3⟩
theorem VrL.at{k:Nat}{w:World}{u:Value}{l:List VrR}(h:VrL k w u l):∃ad m cap,m=l.length∧u= .slice ad m cap∧m≤9223372036854775807∧∀(i:Nat) (r:VrR),l[i]? =some r→∃g off,ad=some ⟨g,off,none⟩∧∃(nm:ByteArray) (l h c:QC),
  (∀wz,Ext w wz→wz.cell? ⟨g,off+i*13,none⟩=some (.string nm)∧wz.cell? ⟨g,off+i*13+1,none⟩=some (.bool r.1)∧wz.cell? ⟨g,off+i*13+2,none⟩=some (.bool r.2.1.1)∧wz.cell? ⟨g,off+i*13+3,none⟩=some (.bool r.2.1.2.1)∧wz.cell? ⟨g,off+i*13+4,none⟩=some (.bool l.b)∧wz.cell? ⟨g,off+i*13+5,none⟩=some (.slice l.a1 l.n1 l.c1)∧wz.cell? ⟨g,off+i*13+6,none⟩=some (.slice l.a2 l.n2 l.c2)∧wz.cell? ⟨g,off+i*13+7,none⟩=some (.bool h.b)∧wz.cell? ⟨g,off+i*13+8,none⟩=some (.slice h.a1 h.n1 h.c1)∧wz.cell? ⟨g,off+i*13+9,none⟩=some (.slice h.a2 h.n2 h.c2)∧wz.cell? ⟨g,off+i*13+10,none⟩=some (.bool c.b)∧wz.cell? ⟨g,off+i*13+11,none⟩=some (.slice c.a1 c.n1 c.c1)∧wz.cell? ⟨g,off+i*13+12,none⟩=some (.slice c.a2 c.n2 c.c2))∧
  SpV k w l h r.2.1∧IsR w (.agg #[.bool c.b,.slice c.a1 c.n1 c.c1,.slice c.a2 c.n2 c.c2]) r.2.2 k:=by
 obtain⟨ad,m,cap,h1,h2,h3,h4⟩:=h.opn;refine⟨ad,m,cap,h1,h2,h3,fun i c hi=> ?_⟩;obtain⟨g,off,k1,xs,k2,k3,nm,l,h,c,j1,j2,j3⟩:=h4 i c hi
 cases j1
 exact⟨g,off,k1,nm,l,h,c,fun wz hz=>⟨k3 wz hz 0 _ rfl,k3 wz hz 1 _ rfl,k3 wz hz 2 _ rfl,k3 wz hz 3 _ rfl,k3 wz hz 4 _ rfl,k3 wz hz 5 _ rfl,k3 wz hz 6 _ rfl,k3 wz hz 7 _ rfl,k3 wz hz 8 _ rfl,k3 wz hz 9 _ rfl,k3 wz hz 10 _ rfl,k3 wz hz 11 _ rfl,k3 wz hz 12 _ rfl⟩,j2,j3⟩
set_option maxHeartbeats 4000000 in
theorem ofrow_calls(nm:ByteArray)(l h:QC)(ta:Option Addr)(tn tc:Nat)(b1 b2:Bool)(w:World):
  Calls Tryz.prog 82 #[.agg #[.string nm,.bool b1,.bool b2,.bool l.b,.slice l.a1 l.n1 l.c1,.slice l.a2 l.n2 l.c2,.bool h.b,.slice h.a1 h.n1 h.c1,.slice h.a2 h.n2 h.c2,.slice ta tn tc]] w fun e w'=>e= .returned (.agg #[.bool b1,.bool b2,.bool l.b,.slice l.a1 l.n1 l.c1,.slice l.a2 l.n2 l.c2,.bool h.b,.slice h.a1 h.n1 h.c1,.slice h.a2 h.n2 h.c2])∧Ext w w':=by
 obtain⟨w1,hw1,e1,b1_,b2_,s1⟩:=alloc2 w #[.string nm,.bool b1,.bool b2,.bool l.b,.slice l.a1 l.n1 l.c1,.slice l.a2 l.n2 l.c2,.bool h.b,.slice h.a1 h.n1 h.c1,.slice h.a2 h.n2 h.c2,.slice ta tn tc] #[.bool b1,.bool b2,.bool l.b,.slice l.a1 l.n1 l.c1,.slice l.a2 l.n2 l.c2,.bool h.b,.slice h.a1 h.n1 h.c1,.slice h.a2 h.n2 h.c2] 97 107
 go_enter Tryz.func82,Tryz.ntmps82
 go_wp2;rw[←hw1];refine ret_box 2 107 (w.heap.size+1) 107 _ _ (by kernel_rfl) rfl b2_ Tryz.underlying107 rfl (by kernel_rfl) rfl ?_;exact⟨rfl,e1⟩
set_option maxHeartbeats 4000000 in
theorem ofvar_calls(nm:ByteArray)(l h c:QC)(b1 b2:Bool)(b0:Bool)(w:World):
  Calls Tryz.prog 84 #[.agg #[.string nm,.bool b0,.bool b1,.bool b2,.bool l.b,.slice l.a1 l.n1 l.c1,.slice l.a2 l.n2 l.c2,.bool h.b,.slice h.a1 h.n1 h.c1,.slice h.a2 h.n2 h.c2,.bool c.b,.slice c.a1 c.n1 c.c1,.slice c.a2 c.n2 c.c2]] w fun e w'=>e= .returned (.agg #[.bool b1,.bool b2,.bool l.b,.slice l.a1 l.n1 l.c1,.slice l.a2 l.n2 l.c2,.bool h.b,.slice h.a1 h.n1 h.c1,.slice h.a2 h.n2 h.c2])∧Ext w w':=by
 obtain⟨w1,hw1,e1,b1_,b2_,s1⟩:=alloc2 w #[.string nm,.bool b0,.bool b1,.bool b2,.bool l.b,.slice l.a1 l.n1 l.c1,.slice l.a2 l.n2 l.c2,.bool h.b,.slice h.a1 h.n1 h.c1,.slice h.a2 h.n2 h.c2,.bool c.b,.slice c.a1 c.n1 c.c1,.slice c.a2 c.n2 c.c2] #[.bool b1,.bool b2,.bool l.b,.slice l.a1 l.n1 l.c1,.slice l.a2 l.n2 l.c2,.bool h.b,.slice h.a1 h.n1 h.c1,.slice h.a2 h.n2 h.c2] 43 107
 go_enter Tryz.func84,Tryz.ntmps84
 go_wp2;rw[←hw1];refine ret_box 2 107 (w.heap.size+1) 107 _ _ (by kernel_rfl) rfl b2_ Tryz.underlying107 rfl (by kernel_rfl) rfl ?_;exact⟨rfl,e1⟩
theorem sholds_calls(k:Nat)(v:Value)(l h:QC)(s:SpR)(x:Rat)(w:World)(hs:SpV k w l h s)(hv:IsR w v x k)(hk:2*k≤68719476736):
  Calls Tryz.prog 97 #[.agg #[.bool s.1,.bool s.2.1,.bool l.b,.slice l.a1 l.n1 l.c1,.slice l.a2 l.n2 l.c2,.bool h.b,.slice h.a1 h.n1 h.c1,.slice h.a2 h.n2 h.c2],v] w fun e w'=>e= .returned (.bool (inB s x))∧Ext w w':=by
 obtain⟨b1,b2,lo,hi⟩:=s;obtain⟨q,rfl⟩:=hv.qc;unfold qv at hv ⊢;have HL:=Lib.hid hs.1;have HH:=Lib.hid hs.2;have HV:=Lib.hid hv
 simp only at HL HH ⊢
 clear hs hv;have HC1:=Lib.hid (cmp_lt x lo);have HC2:=Lib.hid (cmp_gt x hi);obtain⟨d1,hd1⟩:∃d,d=decide (x<lo):=⟨_,rfl⟩;obtain⟨d2,hd2⟩:∃d,d=decide (hi<x):=⟨_,rfl⟩
 have HD:Hid (inB (b1,b2,lo,hi) x=!((b1&&d1) || (b2&&d2))):=Lib.hid (by rw[hd1,hd2];rfl)
 rw[←hd1]at HC1;rw[←hd2]at HC2;clear hd1 hd2;obtain⟨w1,hw1,e1,b1_,b2_,s1⟩:=alloc2 w #[.bool b1,.bool b2,.bool l.b,.slice l.a1 l.n1 l.c1,.slice l.a2 l.n2 l.c2,.bool h.b,.slice h.a1 h.n1 h.c1,.slice h.a2 h.n2 h.c2] #[.bool q.b,.slice q.a1 q.n1 q.c1,.slice q.a2 q.n2 q.c2] 107 41
 go_enter Tryz.func97,Tryz.ntmps97
 cases b1 with
 |false=>
  cases b2 with
  |false=>
   go_wp2;go_ret
   exact⟨by rw[HD.out]<;>rfl,by rw[←hw1];exact e1⟩
  |true=>
   go_wp2_with fail;rw[←hw1];refine(rcmp_calls _ _ x hi k k w1 (HV.out.ext e1) (HH.out.ext e1) (by omega)).mono ?_;rintro e w2 ⟨rfl,e2⟩;obtain⟨z,hz⟩:∃z,z=cmpR x hi:=⟨_,rfl⟩;rw[←hz]at HC2 ⊢;clear hz hw1;go_wp2;go_ret
   exact⟨by rw[HD.out,←HC2.out]<;>simp,e1.trans e2⟩
 |true=>
  go_wp2_with fail;rw[←hw1];refine(rcmp_calls _ _ x lo k k w1 (HV.out.ext e1) (HL.out.ext e1) (by omega)).mono ?_;rintro e w2 ⟨rfl,e2⟩;obtain⟨z,hz⟩:∃z,z=cmpR x lo:=⟨_,rfl⟩;rw[←hz]at HC1 ⊢;have h1:=b1_.ext e2;have h2:=b2_.ext e2;have ha0:=h1.cell 0;have ha1:=h1.cell 1;have ha2:=h1.cell 2;have ha3:=h1.cell 3;have ha4:=h1.cell 4;have ha5:=h1.cell 5;have ha6:=h1.cell 6;have ha7:=h1.cell 7;have hb0:=h2.cell 0;have hb1:=h2.cell 1;have hb2:=h2.cell 2;clear hz hw1 h1 h2 b1_ b2_;have E2:=e1.trans e2
  by_cases hz:z<0
  ·have HC3:=HC1.out;rw[decide_eq_true hz]at HC3;have HC4:=Lib.hid HC3;clear HC3
   cases b2 with
   |false=>
    go_wp2;go_ret
    exact⟨by rw[HD.out,←HC4.out]<;>simp,E2⟩
   |true=>
    go_wp2;go_ret
    exact⟨by rw[HD.out,←HC4.out]<;>simp,E2⟩
  ·have HC3:=HC1.out;rw[decide_eq_false hz]at HC3
   have hz0:0≤z:=by omega
   have HC4:=Lib.hid HC3;clear HC3
   cases b2 with
   |false=>
    go_wp2;go_ret
    exact⟨by rw[HD.out,←HC4.out]<;>simp [hz0],E2⟩
   |true=>
    go_wp2_with fail;refine(rcmp_calls _ _ x hi k k w2 (HV.out.ext E2) (HH.out.ext E2) (by omega)).mono ?_;rintro e w3 ⟨rfl,e3⟩;obtain⟨z2,hz2⟩:∃z,z=cmpR x hi:=⟨_,rfl⟩;rw[←hz2]at HC2 ⊢;clear hz2;go_wp2;go_ret
    exact⟨by rw[HD.out,←HC2.out,←HC4.out]<;>simp [hz0],E2.trans e3⟩
theorem SpV.le{k k':Nat}{w:World}{l h:QC}{s:SpR}(hh:SpV k w l h s)(hk:k≤k'):SpV k' w l h s:=⟨hh.1.mono hk,hh.2.mono hk⟩
def idxG{α:Type}(p:α→Bool):List α→Int
 | []=> -1
 |x::cs=>if p x then 0 else(if idxG p cs<0 then -1 else idxG p cs+1)
theorem idxG_none{α:Type}{p:α→Bool}:∀{cs:List α},(∀x∈cs,p x=false)→idxG p cs= -1
 | [],_=>rfl
 |x::cs,h=>by
  unfold idxG;rw[h x (List.mem_cons_self ..),idxG_none fun y hy=>h y (List.mem_cons_of_mem _ hy)]
  rfl
theorem idxG_at{α:Type}{p:α→Bool}:∀{cs:List α} {i:Nat} {x:α},(∀y∈cs.take i,p y=false)→cs[i]? =some x→p x=true→idxG p cs=(i:Int)
 |y::cs,0,x,_,hx,hp=>by
  cases hx
  unfold idxG;rw[hp]
  rfl
 |y::cs,i+1,x,h,hx,hp=>by
  have h1:p y=false:=h y (by simp)
  have h2:=idxG_at (p:=p) (cs:=cs) (i:=i) (x:=x) (fun z hz=>h z (by rw[List.take_succ_cons];exact List.mem_cons_of_mem _ hz)) (by simpa using hx) hp;unfold idxG;rw[h1,h2];simp only[Bool.false_eq_true,if_false];rw[if_neg (by omega)]
  omega
theorem idxG_any{α:Type}{p:α→Bool}:∀{cs:List α},decide (0≤idxG p cs)=cs.any p
 | []=>rfl
 |x::cs=>by
  have ih:=idxG_any (p:=p) (cs:=cs);unfold idxG;rw[List.any_cons]
  cases hp:p x with
  |true=>rfl
  |false=>
   rw[←ih,Bool.false_or];simp only[Bool.false_eq_true,if_false]
   by_cases h0:idxG p cs<0
   ·rw[if_pos h0,decide_eq_decide];omega
   ·rw[if_neg h0,decide_eq_decide];omega
def offR(xs:List Rat)(r:RwR):Bool:=!inB r.1 (dotV r.2 xs)
def lackV(v:VrR):Bool:=!v.2.1.1 || !v.2.1.2.1
set_option maxHeartbeats 4000000 in
theorem hclo_calls(k kx K gx:Nat)(r:RwR){nm:ByteArray}{l h:QC}{ta:Option Addr}{tn tc:Nat}{ax:Option Addr}{nx cx:Nat}(xs:List Rat)(w:World)(hs:SpV k w l h r.1)(ht:TL k w (.slice ta tn tc) r.2)(hb:Bx 49 w gx #[.slice ax nx cx])(hx:QL kx w (.slice ax nx cx) xs)(h1:k≤K)(h2:r.2.length*(k+kx+1)+1≤K)(hk:(r.2.length+1)*(k+kx+1)≤34359738000)(hK:2*K≤68719476736):
  Calls Tryz.prog 100 #[.agg #[.string nm,.bool r.1.1,.bool r.1.2.1,.bool l.b,.slice l.a1 l.n1 l.c1,.slice l.a2 l.n2 l.c2,.bool h.b,.slice h.a1 h.n1 h.c1,.slice h.a2 h.n2 h.c2,.slice ta tn tc],.pointer (some ⟨gx,0,none⟩)] w fun e w'=>e= .returned (.bool (offR xs r))∧Ext w w':=by
 have lim:68719476736≤LIM:=by rw[LIM_eq];omega
 have HS:=Lib.hid hs;have HT:=Lib.hid ht;have HX:=Lib.hid hx;obtain⟨w1,hw1,e1,b1_,s1⟩:=alloc1 w #[.string nm,.bool r.1.1,.bool r.1.2.1,.bool l.b,.slice l.a1 l.n1 l.c1,.slice l.a2 l.n2 l.c2,.bool h.b,.slice h.a1 h.n1 h.c1,.slice h.a2 h.n2 h.c2,.slice ta tn tc] 97;have hB:=hb.ext e1;obtain⟨d,hd⟩:∃d,d=inB r.1 (dotV r.2 xs):=⟨_,rfl⟩;have HD:=Lib.hid hd;have HK:=Lib.hid hk
 have HO:Hid (offR xs r=!d):=Lib.hid (by rw[hd];rfl)
 clear hd hs ht hx hb hk
 go_enter Tryz.func100,Tryz.ntmps100
 go_wp2_with fail;rw[←hw1];clear hw1;refine wpQ [PP.val (.agg #[.string nm,.bool r.1.1,.bool r.1.2.1,.bool l.b,.slice l.a1 l.n1 l.c1,.slice l.a2 l.n2 l.c2,.bool h.b,.slice h.a1 h.n1 h.c1,.slice h.a2 h.n2 h.c2,.slice ta tn tc]),PP.val (.agg #[.bool r.1.1,.bool r.1.2.1,.bool l.b,.slice l.a1 l.n1 l.c1,.slice l.a2 l.n2 l.c2,.bool h.b,.slice h.a1 h.n1 h.c1,.slice h.a2 h.n2 h.c2]),PP.val (.pointer (some ⟨w.heap.size,9,none⟩)),PP.val (.slice ta tn tc),PP.val (.slice ax nx cx),PP.frQS (dotV r.2 xs) K,PP.val (.bool d),PP.val (.bool (!d)),PP.val (.bool (!d))] [] [0,1,2,3,4,5,6,7,8] ?_ ?_
 ·refine⟨?_,?_,?_,?_,?_,?_,?_,?_,?_,trivial⟩
  ·intro f w2 hG hp hl;have hE:Ext w1 w2:=hG;change OpGoal _ _ _ f w2 Ext _;exact og_load (P:=Tryz.prog) _ _ w.heap.size _ _ _ rfl rfl rfl (b1_.ext hE) Tryz.underlying97 rfl (by kernel_rfl) rfl
  ·intro f w2 hG hp hl;have q4:=tE hp 0 0 rfl rfl rfl;change OpGoal _ _ _ f w2 Ext _;refine oC #[f 0] Tryz.func82 rfl rfl ?_;rw[q4];refine(ofrow_calls nm l h ta tn tc _ _ _).mono ?_;rintro e w' ⟨rfl,h2⟩;exact⟨_,rfl,h2,rfl⟩
  ·intro f w2 hG hp hl;simp only[OpGoal];go_simp;exact⟨_,rfl,Ext.refl _,rfl⟩
  ·intro f w2 hG hp hl;have hE:Ext w1 w2:=hG;have q6:=tE hp 0 2 rfl rfl rfl;have hcell:=(b1_.ext hE).cell 9;simp only[OpGoal];go_simp;exact⟨_,rfl,Ext.refl _,rfl⟩
  ·intro f w2 hG hp hl;have hE:Ext w1 w2:=hG;have hcell:=(hB.ext hE).cell 0;simp only[OpGoal];go_simp;exact⟨_,rfl,Ext.refl _,rfl⟩
  ·intro f w2 hG hp hl;have hE:Ext w1 w2:=hG;have hS:=hE.size;have q7:=tE hp 0 3 rfl rfl rfl;have q8:=tE hp 1 4 rfl rfl rfl;change OpGoal _ _ _ f w2 Ext _;refine oC #[f 3,f 4] Tryz.func101 rfl rfl ?_;rw[q7,q8];refine(vdot_calls k kx _ _ r.2 xs _ (HT.out.ext (e1.trans hE)) (HX.out.ext (e1.trans hE)) HK.out).mono ?_;rintro e w' ⟨v',rfl,h1,hz,h2⟩;exact⟨v',rfl,h2,h1.mono hS,by omega⟩
  ·intro f w2 hG hp hl;have hE:Ext w1 w2:=hG;have hS:=hE.size;have q5:=tE hp 0 1 rfl rfl rfl;have q9:=tellV hp 1 5 rfl rfl (fun _=>hE);change OpGoal _ _ _ f w2 Ext _;refine oC #[f 1,f 5] Tryz.func97 rfl rfl ?_;rw[q5];refine(sholds_calls K _ l h r.1 (dotV r.2 xs) _ ((HS.out.ext (e1.trans hE)).le h1) (q9.1.isR q9.2 (by omega)) hK).mono ?_;rintro e w' ⟨rfl,h2⟩
   exact⟨_,rfl,h2,by rw[HD.out]<;>rfl⟩
  ·intro f w2 hG hp hl;have q10:=tE hp 0 6 rfl rfl rfl;change OpGoal _ _ _ f w2 Ext _;exact og_not (P:=Tryz.prog) _ _ rfl rfl q10 rfl
  ·intro f w2 hG hp hl;have q11:=tE hp 0 7 rfl rfl rfl;simp only[OpGoal];go_simp;exact⟨_,rfl,Ext.refl _,rfl⟩
 ·intro f w2 hG hp;have hE:Ext w1 w2:=ChgS.nil hG
  have q3:f 8= .bool (!d):=endV hp 8 (by decide) rfl (fun h=>by cases h)
  try simp only[q3]
  clear hp;have X:=e1.trans hE;go_wp2;go_ret
  exact⟨by rw[HO.out]<;>rfl,X⟩
set_option maxHeartbeats 4000000 in
theorem fclo_calls(r:VrR){nm:ByteArray}{l h c:QC}(w:World):
  Calls Tryz.prog 149 #[.agg #[.string nm,.bool r.1,.bool r.2.1.1,.bool r.2.1.2.1,.bool l.b,.slice l.a1 l.n1 l.c1,.slice l.a2 l.n2 l.c2,.bool h.b,.slice h.a1 h.n1 h.c1,.slice h.a2 h.n2 h.c2,.bool c.b,.slice c.a1 c.n1 c.c1,.slice c.a2 c.n2 c.c2]] w fun e w'=>e= .returned (.bool (lackV r))∧Ext w w':=by
 obtain⟨b0,⟨b1,b2,lo,hi⟩,cc⟩:=r
 simp only
 obtain⟨w1,hw1,e1,b1_,s1⟩:=alloc1 w #[.string nm,.bool b0,.bool b1,.bool b2,.bool l.b,.slice l.a1 l.n1 l.c1,.slice l.a2 l.n2 l.c2,.bool h.b,.slice h.a1 h.n1 h.c1,.slice h.a2 h.n2 h.c2,.bool c.b,.slice c.a1 c.n1 c.c1,.slice c.a2 c.n2 c.c2] 43
 have HO:Hid (lackV (b0,(b1,b2,lo,hi),cc)=(!b1 || !b2)):=Lib.hid rfl
 go_enter Tryz.func149,Tryz.ntmps149
 cases b1 with
 |false=>
  go_wp2;go_ret
  exact⟨by rw[HO.out]<;>rfl,by rw[←hw1];exact e1⟩
 |true=>
  cases b2 with
  |false=>
   go_wp2;go_ret
   exact⟨by rw[HO.out]<;>rfl,by rw[←hw1];exact e1⟩
  |true=>
   go_wp2;go_ret
   exact⟨by rw[HO.out]<;>rfl,by rw[←hw1];exact e1⟩
set_option maxHeartbeats 4000000 in
theorem hidx_calls(v:Value)(cs:List RwR)(k kx K gx N:Nat){ax:Option Addr}{nx cx:Nat}(xs:List Rat)(w:World)(h:RwL k w v cs)(hb:Bx 49 w gx #[.slice ax nx cx])(hx:QL kx w (.slice ax nx cx) xs)(hN:∀r∈cs,r.2.length≤N)(h1:k≤K)(h2:N*(k+kx+1)+1≤K)(hk:(N+1)*(k+kx+1)≤34359738000)(hK:2*K≤68719476736):
  Calls Tryz.prog 170 #[v,.func (.func 100) #[] #[.pointer (some ⟨gx,0,none⟩)]] w fun e w'=>e= .returned (.int .i64 (idxG (offR xs) cs))∧Ext w w':=by
 have HXS:=Lib.hid hx;have HNN:=Lib.hid hN;clear hx hN;obtain⟨ad,n,cap,hnl,rfl,hn1,hat⟩:=h.at;have Hn:=Lib.hid hnl;have Hat:=Lib.hid hat;clear hnl hat h
 go_enter Tryz.func170,Tryz.ntmps170
 go_wp2_with fail
 go_loopw [8] (fun s8 wr=>∃i:Nat,i≤n∧s8= .int .i64 (i:Int)∧Hid (∀x∈cs.take i,(offR xs) x=false)∧Ext w wr) (fun s8 _=>((n:Int) - intOf s8).toNat)
 case atStart=>exact ⟨0,Nat.zero_le _,rfl,Lib.hid (fun x hx=>by simp at hx),Ext.refl _⟩
 case round=>
  obtain⟨i,hi,rfl,hH,hex⟩:=hrel
  rcases Nat.eq_or_lt_of_le hi with hin |hin
  ·subst hin
   have hlt:¬((i:Int)<(i:Int)):=by omega
   have HF:Hid (idxG (offR xs) cs= -1):=by
    have:=hH.out
    rw[Hn.out,List.take_length]at this;exact Lib.hid (idxG_none this)
   clear hH;go_wp2;go_ret
   exact⟨by rw[HF.out]<;>rfl,hex⟩
  ·have hlt:(i:Int)<(n:Int):=by omega
   obtain⟨c,hx⟩:∃x,cs[i]? =some x:=⟨_,List.getElem?_eq_getElem (by rw[←Hn.out];exact hin)⟩;obtain⟨g,off,rfl,nm,l,h,ta,tn,tc,hcell,hS,hT⟩:=Hat.out i c hx;obtain⟨hc0,hc1,hc2,hc3,hc4,hc5,hc6,hc7,hc8,hc9⟩:=hcell wr hex;have HC:=Lib.hid (And.intro hS hT);have HPC:=Lib.hid (hb.ext hex);clear hS hT hcell;have HX:=Lib.hid (And.intro hx (take_next hx));have HMEM:=Lib.hid (List.mem_of_getElem? hx);obtain⟨r,hr⟩:∃r:Bool,r=(offR xs) c:=⟨_,rfl⟩;have Hr:=Lib.hid hr.symm;clear hx hr;go_wp2_with fail;refine(hclo_calls k kx K gx c xs wr (HC.out.1.ext hex) (HC.out.2.ext hex) HPC.out (HXS.out.ext hex) h1 (Nat.le_trans (Nat.add_le_add_right (Nat.mul_le_mul_right _ (HNN.out c HMEM.out)) 1) h2) (Nat.le_trans (Nat.mul_le_mul_right _ (Nat.add_le_add_right (HNN.out c HMEM.out) 1)) hk) hK).mono ?_;rw[Hr.out];rintro ee w2 ⟨rfl,e2⟩
   cases r with
   |true=>
    have HF:Hid (idxG (offR xs) cs=(i:Int)):=Lib.hid (idxG_at hH.out HX.out.1 Hr.out)
    clear hH;go_wp2;go_ret
    exact⟨by rw[HF.out]<;>rfl,hex.trans e2⟩
   |false=>
    have HF:Hid (∀x∈cs.take (i+1),(offR xs) x=false):=Lib.hid fun x hx=>by
     rw[HX.out.2]at hx
     rcases List.mem_append.1 hx with hx |hx
     ·exact hH.out x hx
     ·rw[List.mem_singleton]at hx;subst hx;exact Hr.out
    clear hH;go_wp2;go_roundw
    case rel=>exact ⟨i+1,by omega,congrArg (Value.int .i64) (by omega),HF,hex.trans e2⟩
    case measure=>simp [intOf];omega
set_option maxHeartbeats 4000000 in
theorem hany_calls(v:Value)(cs:List RwR)(k kx K gx N:Nat){ax:Option Addr}{nx cx:Nat}(xs:List Rat)(w:World)(h:RwL k w v cs)(hb:Bx 49 w gx #[.slice ax nx cx])(hx:QL kx w (.slice ax nx cx) xs)(hN:∀r∈cs,r.2.length≤N)(h1:k≤K)(h2:N*(k+kx+1)+1≤K)(hk:(N+1)*(k+kx+1)≤34359738000)(hK:2*K≤68719476736):
  Calls Tryz.prog 99 #[v,.func (.func 100) #[] #[.pointer (some ⟨gx,0,none⟩)]] w fun e w'=>e= .returned (.bool (cs.any (offR xs)))∧Ext w w':=by
 go_enter Tryz.func99,Tryz.ntmps99
 go_wp2_with fail;refine(hidx_calls v cs k kx K gx N xs w h hb hx hN h1 h2 hk hK).mono ?_;rintro e w2 ⟨rfl,e2⟩;have hA:=idxG_any (p:=(offR xs)) (cs:=cs);obtain⟨r,hr⟩:∃r,r=idxG (offR xs) cs:=⟨_,rfl⟩;rw[←hr]at hA ⊢;have HA:=Lib.hid hA;clear hA hr h
 by_cases h0:0≤r
 ·have HB:Hid ((cs.any (offR xs))=true):=Lib.hid (by rw[←HA.out,decide_eq_true h0])
  go_wp2;go_ret
  exact⟨by rw[HB.out]<;>rfl,e2⟩
 ·have HB:Hid ((cs.any (offR xs))=false):=Lib.hid (by rw[←HA.out,decide_eq_false h0])
  have hd:decide (0≤r)=false:=decide_eq_false h0
  have hlt:r<0:=by omega
  go_wp2;go_ret
  exact⟨by rw[HB.out]<;>simp [h0],e2⟩
set_option maxHeartbeats 4000000 in
theorem fidx_calls(v:Value)(cs:List VrR)(k:Nat)(w:World)(h:VrL k w v cs):
  Calls Tryz.prog 189 #[v,.func (.func 149) #[] #[]] w fun e w'=>e= .returned (.int .i64 (idxG lackV cs))∧Ext w w':=by
 skip
 obtain⟨ad,n,cap,hnl,rfl,hn1,hat⟩:=h.at;have Hn:=Lib.hid hnl;have Hat:=Lib.hid hat;clear hnl hat h
 go_enter Tryz.func189,Tryz.ntmps189
 go_wp2_with fail
 go_loopw [8] (fun s8 wr=>∃i:Nat,i≤n∧s8= .int .i64 (i:Int)∧Hid (∀x∈cs.take i,lackV x=false)∧Ext w wr) (fun s8 _=>((n:Int) - intOf s8).toNat)
 case atStart=>exact ⟨0,Nat.zero_le _,rfl,Lib.hid (fun x hx=>by simp at hx),Ext.refl _⟩
 case round=>
  obtain⟨i,hi,rfl,hH,hex⟩:=hrel
  rcases Nat.eq_or_lt_of_le hi with hin |hin
  ·subst hin
   have hlt:¬((i:Int)<(i:Int)):=by omega
   have HF:Hid (idxG lackV cs= -1):=by
    have:=hH.out
    rw[Hn.out,List.take_length]at this;exact Lib.hid (idxG_none this)
   clear hH;go_wp2;go_ret
   exact⟨by rw[HF.out]<;>rfl,hex⟩
  ·have hlt:(i:Int)<(n:Int):=by omega
   obtain⟨c,hx⟩:∃x,cs[i]? =some x:=⟨_,List.getElem?_eq_getElem (by rw[←Hn.out];exact hin)⟩;obtain⟨g,off,rfl,nm,l,h,c2,hcell, -, -⟩:=Hat.out i c hx;obtain⟨hc0,hc1,hc2,hc3,hc4,hc5,hc6,hc7,hc8,hc9,hc10,hc11,hc12⟩:=hcell wr hex;clear hcell;have HX:=Lib.hid (And.intro hx (take_next hx));have HMEM:=Lib.hid (List.mem_of_getElem? hx);obtain⟨r,hr⟩:∃r:Bool,r=lackV c:=⟨_,rfl⟩;have Hr:=Lib.hid hr.symm;clear hx hr;go_wp2_with fail;refine(fclo_calls c wr).mono ?_;rw[Hr.out];rintro ee w2 ⟨rfl,e2⟩
   cases r with
   |true=>
    have HF:Hid (idxG lackV cs=(i:Int)):=Lib.hid (idxG_at hH.out HX.out.1 Hr.out)
    clear hH;go_wp2;go_ret
    exact⟨by rw[HF.out]<;>rfl,hex.trans e2⟩
   |false=>
    have HF:Hid (∀x∈cs.take (i+1),lackV x=false):=Lib.hid fun x hx=>by
     rw[HX.out.2]at hx
     rcases List.mem_append.1 hx with hx |hx
     ·exact hH.out x hx
     ·rw[List.mem_singleton]at hx;subst hx;exact Hr.out
    clear hH;go_wp2;go_roundw
    case rel=>exact ⟨i+1,by omega,congrArg (Value.int .i64) (by omega),HF,hex.trans e2⟩
    case measure=>simp [intOf];omega
set_option maxHeartbeats 4000000 in
theorem fany_calls(v:Value)(cs:List VrR)(k:Nat)(w:World)(h:VrL k w v cs):
  Calls Tryz.prog 148 #[v,.func (.func 149) #[] #[]] w fun e w'=>e= .returned (.bool (cs.any lackV))∧Ext w w':=by
 go_enter Tryz.func148,Tryz.ntmps148
 go_wp2_with fail;refine(fidx_calls v cs k w h).mono ?_;rintro e w2 ⟨rfl,e2⟩;have hA:=idxG_any (p:=lackV) (cs:=cs);obtain⟨r,hr⟩:∃r,r=idxG lackV cs:=⟨_,rfl⟩;rw[←hr]at hA ⊢;have HA:=Lib.hid hA;clear hA hr h
 by_cases h0:0≤r
 ·have HB:Hid ((cs.any lackV)=true):=Lib.hid (by rw[←HA.out,decide_eq_true h0])
  go_wp2;go_ret
  exact⟨by rw[HB.out]<;>rfl,e2⟩
 ·have HB:Hid ((cs.any lackV)=false):=Lib.hid (by rw[←HA.out,decide_eq_false h0])
  have hd:decide (0≤r)=false:=decide_eq_false h0
  have hlt:r<0:=by omega
  go_wp2;go_ret
  exact⟨by rw[HB.out]<;>simp [h0],e2⟩
def goodV(v:VrR)(x:Rat):Bool:=inB v.2.1 x&& !(v.1&& !isW x)
def holdsP(p:PbR)(xs:List Rat):Bool:=decide (xs.length=p.2.length)&&(((p.2.zip xs).all fun t=>goodV t.1 t.2)&& !(p.1.any (offR xs)))
def finP(p:PbR):Bool:=!(p.2.any lackV)
theorem zip_at{α β:Type}{l:List α}{m:List β}{i:Nat}{a:α}{b:β}(h:l[i]? =some a)(k:m[i]? =some b):(l.zip m)[i]? =some (a,b):=by
 rw[List.getElem?_zip_eq_some];exact⟨h,k⟩
theorem all_no{α:Type}{l:List α}{i:Nat}{a:α}{p:α→Bool}(h:l[i]? =some a)(hp:p a=false):l.all p=false:=by
 rw[Bool.eq_false_iff];intro h2
 have:=List.all_eq_true.1 h2 a (List.mem_of_getElem? h)
 rw[hp]at this
 cases this
theorem mholds_calls(k kx K N:Nat)(v u:Value)(p:PbR)(xs:List Rat)(w:World)(hp:PbV k w v p)(hx:QL kx w u xs)(hN:∀r∈p.1,r.2.length≤N)(h1:k≤K)(h3:kx≤K)(h2:N*(k+kx+1)+1≤K)(hk:(N+1)*(k+kx+1)≤34359738000)(hK:K≤17179869180):
  Calls Tryz.prog 33 #[v,u] w fun e w'=>e= .returned (.bool (holdsP p xs))∧Ext w w':=by
 obtain⟨rows,vars⟩:=p;obtain⟨n0,n1,ra,rn,rc,va,vn,vc,rfl,hr,hvv⟩:=hp
 simp only at hr hvv hN
 obtain⟨ax,nx,cx,hnx,rfl,hx1,hatx⟩:=hx.at;obtain⟨va',n,vc',hn,hve,hn1,hatv⟩:=hvv.at;simp only[Value.slice.injEq]at hve;obtain⟨rfl,rfl,rfl⟩:=hve;have HR:=Lib.hid hr;have HX:=Lib.hid hx;have HN:=Lib.hid hN;have Hn:=Lib.hid hn;have Hnx:=Lib.hid hnx;have HAV:=Lib.hid hatv;have HAX:=Lib.hid hatx;have HK:=Lib.hid hk;have H2:=Lib.hid h2;clear hr hx hN hn hnx hatv hatx hvv hk h2;obtain⟨w1,hw1,e1,b1_,b2_,s1⟩:=alloc2 w #[.string n0,.string n1,.slice ra rn rc,.slice va vn vc] #[.slice ax nx cx] 25 49
 go_enter Tryz.func33,Tryz.ntmps33
 by_cases hne:nx=vn
 ·subst hne
  have hne2:((nx:Int) !=(nx:Int))=false:=by simp
  go_wp2_with fail;rw[←hw1]
  go_loopw [16] (fun s16 wr=>∃i:Nat,i≤nx∧s16= .int .i64 (i:Int)∧Hid (∀t∈(vars.zip xs).take i,goodV t.1 t.2=true)∧Ext w1 wr) (fun s16 _=>((nx:Int) - intOf s16).toNat)
  case atStart=>exact ⟨0,Nat.zero_le _,rfl,Lib.hid (fun t ht=>by simp at ht),Ext.refl _⟩
  case round=>
   obtain⟨i,hi,rfl,hH,hE0⟩:=hrel
   rcases Nat.eq_or_lt_of_le hi with hin |hin
   ·have hlt:¬((i:Int)<(nx:Int)):=by omega
    obtain⟨q,hqe⟩:∃q,q=rows.any (offR xs):=⟨_,rfl⟩
    have HH:Hid (holdsP (rows,vars) xs=!q):=Lib.hid (by
     unfold holdsP;rw[decide_eq_true (by show xs.length=vars.length;rw[←Hn.out,←Hnx.out]),Bool.true_and];have h5:=hH.out;rw[List.take_of_length_le (by rw[List.length_zip,←Hn.out,←Hnx.out];omega)]at h5
     rw[List.all_eq_true.2 h5,Bool.true_and,hqe])
    clear hH;have hb:=b1_.ext hE0;have hq:=b2_.ext hE0;have hb0:=hb.cell 0;have hb1:=hb.cell 1;have hb2:=hb.cell 2;have hb3:=hb.cell 3;have hbx:=hq.cell 0;clear hw1;go_wp2_with fail;refine(hany_calls _ rows k kx K (w.heap.size+1) N xs wr (HR.out.ext (e1.trans hE0)) hq (HX.out.ext (e1.trans hE0)) HN.out h1 H2.out HK.out (by omega)).mono ?_;rw[←hqe];rintro e w2 ⟨rfl,e2⟩;clear hqe hb hq hb0 hb1 hb2 hb3 hbx;go_wp2;go_ret
    exact⟨by rw[HH.out]<;>rfl,e1.trans (hE0.trans e2)⟩
   ·have hlt:(i:Int)<(nx:Int):=by omega
    obtain⟨y,hy⟩:∃y,vars[i]? =some y:=⟨_,List.getElem?_eq_getElem (by rw[←Hn.out];exact hin)⟩;obtain⟨x,hx⟩:∃x,xs[i]? =some x:=⟨_,List.getElem?_eq_getElem (by rw[←Hnx.out];exact hin)⟩;obtain⟨gv0,ov,rfl,nm,l,h,c,hcell,hS,hC⟩:=HAV.out i y hy;obtain⟨hc0,hc1,hc2,hc3,hc4,hc5,hc6,hc7,hc8,hc9,hc10,hc11,hc12⟩:=hcell wr (e1.trans hE0);obtain⟨gx,ox,rfl,b,a1,m1,c1,a2,m2,c2,hcx,hIR⟩:=HAX.out i x hx;have HXC:=Lib.hid hcx;have HXR:=Lib.hid hIR;have HS:=Lib.hid hS;have HZ:=Lib.hid (zip_at hy hx);clear hcell hcx hIR hS hC hy hx;obtain⟨wl,hwl,el,BV,sl⟩:=alloc1 wr #[.string nm,.bool y.1,.bool y.2.1.1,.bool y.2.1.2.1,.bool l.b,.slice l.a1 l.n1 l.c1,.slice l.a2 l.n2 l.c2,.bool h.b,.slice h.a1 h.n1 h.c1,.slice h.a2 h.n2 h.c2,.bool c.b,.slice c.a1 c.n1 c.c1,.slice c.a2 c.n2 c.c2] 43;have hEl:=hE0.trans el;have BX:=b2_.ext hEl;obtain⟨d1,hd1⟩:∃d,d=inB y.2.1 x:=⟨_,rfl⟩;obtain⟨d2,hd2⟩:∃d,d=isW x:=⟨_,rfl⟩;have HD1:=Lib.hid hd1;have HD2:=Lib.hid hd2
    have HG:Hid (goodV y x=!((!d1) || (y.1&& !d2))):=Lib.hid (by
     rw[hd1,hd2];unfold goodV
     rw[Bool.not_or,Bool.not_not])
    obtain⟨gv,hgv⟩:∃gv,gv=wr.heap.size:=⟨_,rfl⟩;clear hd1 hd2;go_wp2_with fail;rw[←hwl,←hgv];rw[←hgv]at BV;clear hc0 hc1 hc2 hc3 hc4 hc5 hc6 hc7 hc8 hc9 hc10 hc11 hc12 hwl hgv hw1;refine wpQ [PP.val (.agg #[.string nm,.bool y.1,.bool y.2.1.1,.bool y.2.1.2.1,.bool l.b,.slice l.a1 l.n1 l.c1,.slice l.a2 l.n2 l.c2,.bool h.b,.slice h.a1 h.n1 h.c1,.slice h.a2 h.n2 h.c2,.bool c.b,.slice c.a1 c.n1 c.c1,.slice c.a2 c.n2 c.c2]),PP.val (.agg #[.bool y.2.1.1,.bool y.2.1.2.1,.bool l.b,.slice l.a1 l.n1 l.c1,.slice l.a2 l.n2 l.c2,.bool h.b,.slice h.a1 h.n1 h.c1,.slice h.a2 h.n2 h.c2]),PP.val (.slice (some ⟨gx,ox,none⟩) nx cx),PP.val (.int .i64 (i:Int)),PP.val (.pointer (some ⟨gx,ox+i*3,none⟩)),PP.val (.agg #[.bool b,.slice a1 m1 c1,.slice a2 m2 c2]),PP.val (.bool d1),PP.val (.bool (!d1)),PP.val (.bool (!d1)),PP.whn (!((!d1))) (PP.val (.pointer (some ⟨gv,1,none⟩))),PP.whn (!((!d1))) (PP.val (.bool y.1)),PP.whn (!((!d1))) (PP.val (.bool y.1)),PP.whn ((!((!d1)))&&y.1) (PP.val (.slice (some ⟨gx,ox,none⟩) nx cx)),PP.whn ((!((!d1)))&&y.1) (PP.val (.int .i64 (i:Int))),PP.whn ((!((!d1)))&&y.1) (PP.val (.pointer (some ⟨gx,ox+i*3,none⟩))),PP.whn ((!((!d1)))&&y.1) (PP.val (.agg #[.bool b,.slice a1 m1 c1,.slice a2 m2 c2])),PP.whn ((!((!d1)))&&y.1) (PP.val (.bool d2)),PP.whn ((!((!d1)))&&y.1) (PP.val (.bool (!d2))),PP.whn (!((!d1))) (PP.val (.bool (y.1&&((!d2))))),PP.val (.bool (((!d1)) || ((y.1&&((!d2))))))] [] [0,1,2,3,4,5,6,7,8,9,10,11,12,13,14,15,16,17,18,19] ?_ ?_
    ·refine⟨?_,?_,?_,?_,?_,?_,?_,?_,?_,?_,?_,?_,?_,?_,?_,?_,?_,?_,?_,?_,trivial⟩
     ·intro f w2 hG hp hl;have hE:Ext wl w2:=hG;change OpGoal _ _ _ f w2 Ext _;exact og_load (P:=Tryz.prog) _ _ gv _ _ _ rfl rfl rfl (BV.ext hE) Tryz.underlying43 rfl (by kernel_rfl) rfl
     ·intro f w2 hG hp hl;have q21:=tE hp 0 0 rfl rfl rfl;change OpGoal _ _ _ f w2 Ext _;refine oC #[f 0] Tryz.func84 rfl rfl ?_;rw[q21];refine(ofvar_calls nm l h c y.2.1.1 y.2.1.2.1 y.1 _).mono ?_;rintro e w' ⟨rfl,h2⟩;exact⟨_,rfl,h2,rfl⟩
     ·intro f w2 hG hp hl;have hE:Ext wl w2:=hG;have hcell:=(BX.ext hE).cell 0;simp only[OpGoal];go_simp;exact⟨_,rfl,Ext.refl _,rfl⟩
     ·intro f w2 hG hp hl;simp only[OpGoal];go_simp;exact⟨_,rfl,Ext.refl _,rfl⟩
     ·intro f w2 hG hp hl;have q23:=tE hp 0 2 rfl rfl rfl;have q24:=tE hp 1 3 rfl rfl rfl;simp only[OpGoal];go_simp;exact⟨_,rfl,Ext.refl _,rfl⟩
     ·intro f w2 hG hp hl;have hE:Ext wl w2:=hG;have q25:=tE hp 0 4 rfl rfl rfl
      have hz0:w2.cell? ⟨gx,ox+i*3,none⟩=some (.bool b):=HXC.out _ (e1.trans (hEl.trans hE)) 0 _ rfl
      have hz1:=HXC.out _ (e1.trans (hEl.trans hE)) 1 _ rfl;have hz2:=HXC.out _ (e1.trans (hEl.trans hE)) 2 _ rfl;simp only[OpGoal];go_simp;exact⟨_,rfl,Ext.refl _,rfl⟩
     ·intro f w2 hG hp hl;have hE:Ext wl w2:=hG;have hS:=hE.size;have q22:=tE hp 0 1 rfl rfl rfl;have q26:=tE hp 1 5 rfl rfl rfl;change OpGoal _ _ _ f w2 Ext _;refine oC #[f 1,f 5] Tryz.func97 rfl rfl ?_;rw[q22,q26];refine(sholds_calls K _ l h y.2.1 x _ ((HS.out.ext (e1.trans (hEl.trans hE))).le h1) ((HXR.out.ext (e1.trans (hEl.trans hE))).mono h3) (by omega)).mono ?_;rintro e w' ⟨rfl,h2⟩
      exact⟨_,rfl,h2,by rw[HD1.out]<;>rfl⟩
     ·intro f w2 hG hp hl;have q27:=tE hp 0 6 rfl rfl rfl;change OpGoal _ _ _ f w2 Ext _;exact og_not (P:=Tryz.prog) _ _ rfl rfl q27 rfl
     ·intro f w2 hG hp hl;have q28:=tE hp 0 7 rfl rfl rfl;simp only[OpGoal];go_simp;exact⟨_,rfl,Ext.refl _,rfl⟩
     ·intro f w2 hG hp hl;have qg:=tellV hp 0 8 rfl rfl (fun h=>by cases h);refine og_when (p:=(PP.val (.pointer (some ⟨gv,1,none⟩)):PP _).p) rfl (when_f qg) ?_;intro hg0;clear qg;simp only[OpGoal];go_simp;exact⟨_,rfl,Ext.refl _,rfl⟩
     ·intro f w2 hG hp hl;have hE:Ext wl w2:=hG;have qg:=tellV hp 1 8 rfl rfl (fun h=>by cases h);refine og_when (p:=(PP.val (.bool y.1):PP _).p) rfl (when_f qg) ?_;intro hg0;clear qg
      have q30:f 9= .pointer (some ⟨gv,1,none⟩):=(tellV hp 0 9 rfl rfl (fun h=>by cases h)).1 hg0
      have hcell:=(BV.ext hE).cell 1;simp only[OpGoal];go_simp;exact⟨_,rfl,Ext.refl _,rfl⟩
     ·intro f w2 hG hp hl;have qg:=tellV hp 1 8 rfl rfl (fun h=>by cases h);refine og_when (p:=(PP.val (.bool y.1):PP _).p) rfl (when_f qg) ?_;intro hg0;clear qg
      have q31:f 10= .bool y.1:=(tellV hp 0 10 rfl rfl (fun h=>by cases h)).1 hg0
      simp only[OpGoal];go_simp;exact⟨_,rfl,Ext.refl _,rfl⟩
     ·intro f w2 hG hp hl;have hE:Ext wl w2:=hG;have qg:=tellV hp 0 11 rfl rfl (fun h=>by cases h);refine og_when (p:=(PP.val (.slice (some ⟨gx,ox,none⟩) nx cx):PP _).p) rfl (when_in qg) ?_;intro hg0;clear qg;have hg1:=(Bool.and_eq_true_iff.1 hg0).1;have hcell:=(BX.ext hE).cell 0;simp only[OpGoal];go_simp;exact⟨_,rfl,Ext.refl _,rfl⟩
     ·intro f w2 hG hp hl;have qg:=tellV hp 0 11 rfl rfl (fun h=>by cases h);refine og_when (p:=(PP.val (.int .i64 (i:Int)):PP _).p) rfl (when_in qg) ?_;intro hg0;clear qg;have hg1:=(Bool.and_eq_true_iff.1 hg0).1;simp only[OpGoal];go_simp;exact⟨_,rfl,Ext.refl _,rfl⟩
     ·intro f w2 hG hp hl;have qg:=tellV hp 2 11 rfl rfl (fun h=>by cases h);refine og_when (p:=(PP.val (.pointer (some ⟨gx,ox+i*3,none⟩)):PP _).p) rfl (when_in qg) ?_;intro hg0;clear qg;have hg1:=(Bool.and_eq_true_iff.1 hg0).1
      have q33:f 12= .slice (some ⟨gx,ox,none⟩) nx cx:=(tellV hp 0 12 rfl rfl (fun h=>by cases h)).1 hg0
      have q34:f 13= .int .i64 (i:Int):=(tellV hp 1 13 rfl rfl (fun h=>by cases h)).1 hg0
      simp only[OpGoal];go_simp;exact⟨_,rfl,Ext.refl _,rfl⟩
     ·intro f w2 hG hp hl;have hE:Ext wl w2:=hG;have qg:=tellV hp 1 11 rfl rfl (fun h=>by cases h);refine og_when (p:=(PP.val (.agg #[.bool b,.slice a1 m1 c1,.slice a2 m2 c2]):PP _).p) rfl (when_in qg) ?_;intro hg0;clear qg;have hg1:=(Bool.and_eq_true_iff.1 hg0).1
      have q35:f 14= .pointer (some ⟨gx,ox+i*3,none⟩):=(tellV hp 0 14 rfl rfl (fun h=>by cases h)).1 hg0
      have hz0:w2.cell? ⟨gx,ox+i*3,none⟩=some (.bool b):=HXC.out _ (e1.trans (hEl.trans hE)) 0 _ rfl
      have hz1:=HXC.out _ (e1.trans (hEl.trans hE)) 1 _ rfl;have hz2:=HXC.out _ (e1.trans (hEl.trans hE)) 2 _ rfl;simp only[OpGoal];go_simp;exact⟨_,rfl,Ext.refl _,rfl⟩
     ·intro f w2 hG hp hl;have hE:Ext wl w2:=hG;have hS:=hE.size;have qg:=tellV hp 1 11 rfl rfl (fun h=>by cases h);refine og_when (p:=(PP.val (.bool d2):PP _).p) rfl (when_in qg) ?_;intro hg0;clear qg;have hg1:=(Bool.and_eq_true_iff.1 hg0).1
      have q36:f 15= .agg #[.bool b,.slice a1 m1 c1,.slice a2 m2 c2]:=(tellV hp 0 15 rfl rfl (fun h=>by cases h)).1 hg0
      change OpGoal _ _ _ f w2 Ext _;refine oC #[f 15] Tryz.func98 rfl rfl ?_;rw[q36];refine(riswhole_calls _ x kx _ (HXR.out.ext (e1.trans (hEl.trans hE))) (by omega)).mono ?_;rintro e w' ⟨rfl,h2⟩
      exact⟨_,rfl,h2,by rw[HD2.out]<;>rfl⟩
     ·intro f w2 hG hp hl;have qg:=tellV hp 1 11 rfl rfl (fun h=>by cases h);refine og_when (p:=(PP.val (.bool (!d2)):PP _).p) rfl (when_in qg) ?_;intro hg0;clear qg;have hg1:=(Bool.and_eq_true_iff.1 hg0).1
      have q37:f 16= .bool d2:=(tellV hp 0 16 rfl rfl (fun h=>by cases h)).1 hg0
      change OpGoal _ _ _ f w2 Ext _;exact og_not (P:=Tryz.prog) _ _ rfl rfl q37 rfl
     ·intro f w2 hG hp hl;have qg:=tellV hp 2 8 rfl rfl (fun h=>by cases h);refine og_when (p:=(PP.val (.bool (y.1&&((!d2)))):PP _).p) rfl (when_f qg) ?_;intro hg0;clear qg
      have q32:f 11= .bool y.1:=(tellV hp 0 11 rfl rfl (fun h=>by cases h)).1 hg0
      have q38:=tellV hp 1 17 rfl rfl (fun h=>by cases h);change OpGoal _ _ _ f w2 Ext _;exact og_pickA (P:=Tryz.prog) _ _ rfl rfl q32 (fun h=>q38.1 (by rw[hg0,h];rfl)) rfl
     ·intro f w2 hG hp hl;have q29:=tE hp 0 8 rfl rfl rfl;have q39:=tellV hp 1 18 rfl rfl (fun h=>by cases h);change OpGoal _ _ _ f w2 Ext _;exact og_pickO (P:=Tryz.prog) _ _ rfl rfl q29 (fun h=>q39.1 (by rw[h];rfl)) rfl
    ·intro f wq hG hp;have hE:Ext wl wq:=ChgS.nil hG
     have q40:f 19= .bool (((!d1)) || ((y.1&&((!d2))))):=endV hp 19 (by decide) rfl (fun h=>by cases h)
     try simp only[q40]
     clear hp;have hEq:=hEl.trans hE;obtain⟨g,hg⟩:∃g,g=((!d1) || (y.1&& !d2)):=⟨_,rfl⟩;rw[←hg]at HG ⊢;clear hg hE
     cases g with
     |true=>
      have HH:Hid (holdsP (rows,vars) xs=false):=Lib.hid (by
       unfold holdsP
       rw[all_no HZ.out HG.out,Bool.false_and,Bool.and_false])
      go_wp2;go_ret
      exact⟨by rw[HH.out]<;>rfl,e1.trans hEq⟩
     |false=>
      have HF:Hid (∀t∈(vars.zip xs).take (i+1),goodV t.1 t.2=true):=Lib.hid fun t ht=>by
       rw[take_next HZ.out]at ht
       rcases List.mem_append.1 ht with ht |ht
       ·exact hH.out t ht
       ·rw[List.mem_singleton]at ht;subst ht;exact HG.out
      clear hH;go_wp2;go_roundw
      case rel=>exact ⟨i+1,by omega,congrArg (Value.int .i64) (by omega),HF,hEq⟩
      case measure=>simp [intOf];omega
 ·have hne2:((nx:Int) !=(vn:Int))=true:=by simp;omega
  have HH:Hid (holdsP (rows,vars) xs=false):=Lib.hid (by
   unfold holdsP
   rw[decide_eq_false (by show¬xs.length=vars.length;rw[←Hn.out,←Hnx.out];exact hne),Bool.false_and])
  go_wp2;go_ret
  exact⟨by rw[HH.out]<;>rfl,by rw[←hw1];exact e1⟩
theorem mfinite_calls(k:Nat)(v:Value)(p:PbR)(w:World)(hp:PbV k w v p):
  Calls Tryz.prog 72 #[v] w fun e w'=>e= .returned (.bool (finP p))∧Ext w w':=by
 obtain⟨rows,vars⟩:=p;obtain⟨n0,n1,ra,rn,rc,va,vn,vc,rfl,hr,hvv⟩:=hp;have HV:=Lib.hid hvv;clear hr hvv;obtain⟨w1,hw1,e1,b1_,s1⟩:=alloc1 w #[.string n0,.string n1,.slice ra rn rc,.slice va vn vc] 25;obtain⟨q,hqe⟩:∃q,q=vars.any lackV:=⟨_,rfl⟩
 have HH:Hid (finP (rows,vars)=!q):=Lib.hid (by rw[hqe];rfl)
 go_enter Tryz.func72,Tryz.ntmps72
 go_wp2_with fail;rw[←hw1];refine(fany_calls _ vars k w1 (HV.out.ext e1)).mono ?_;rw[←hqe];rintro e w2 ⟨rfl,e2⟩;clear hqe hw1;go_wp2;go_ret
 exact⟨by rw[HH.out]<;>rfl,e1.trans e2⟩
def costs(vs:List VrR):List Rat:=vs.map fun v=>v.2.2
def objP(p:PbR):List (Int×Rat):=mkV (gaN (costs p.2) p.2.length)
def costP(p:PbR)(xs:List Rat):Rat:=dotV (objP p) xs
theorem costs_at{vs:List VrR}{i:Nat}{y:VrR}(h:vs[i]? =some y):(costs vs)[i]? =some y.2.2:=by
 unfold costs;rw[List.getElem?_map,h]
 rfl
set_option maxHeartbeats 2000000 in
theorem mobj_calls(k:Nat)(v:Value)(p:PbR)(w:World)(hp:PbV k w v p)(hnb:p.2.length≤1073741824)(hk:(p.2.length+1)*(k+1)≤34359738000):
  Calls Tryz.prog 19 #[v] w fun e w'=>∃v',e= .returned v'∧TO w.heap.size (p.2.length*(k+1)) w' v' (objP p)∧Ext w w':=by
 obtain⟨rows,vars⟩:=p;obtain⟨n0,n1,ra,rn,rc,va,vn,vc,rfl,hr,hvv⟩:=hp;obtain⟨va',n,vc',hn,hve,hn1,hatv⟩:=hvv.at;simp only[Value.slice.injEq]at hve;obtain⟨rfl,rfl,rfl⟩:=hve;have Hn:=Lib.hid hn;have HAV:=Lib.hid hatv;obtain⟨w1,hw1,e1,b1_,s1⟩:=alloc1 w #[.string n0,.string n1,.slice ra rn rc,.slice va vn vc] 25
 simp only at hn hatv hnb hk ⊢
 rw[←hn]at hnb hk ⊢;have HK:=Lib.hid hk
 have HOB:Hid (objP (rows,vars)=mkV (gaN (costs vars) vn)):=Lib.hid (by rw[hn];rfl)
 rw[HOB.out];clear hr hvv hn hatv hk
 go_enter Tryz.func19,Tryz.ntmps19
 go_wp2_with fail;rw[←hw1]
 go_loopw [3,9] (fun s3 s9 wr=>∃(i:Nat) (vs:List Value) (ado:Option Addr) (capo:Nat),i≤vn∧s9= .int .i64 (i:Int)∧s3= .slice ado i capo∧Hid (GaJ w1 wr k i (costs vars) (.slice ado i capo) vs)) (fun _ s9 _=>((vn:Int) - intOf s9).toNat)
 case atStart=>exact ⟨0,[],none,0,Nat.zero_le _,rfl,rfl,Lib.hid ⟨Ext.refl _,LS.nil _ _ _ _,rfl,[],rfl,rfl,fun p hp=>by cases hp⟩⟩
 case round=>
  obtain⟨i,vs,ado,capo,hi,rfl,rfl,hH⟩:=hrel;have hE0:=hH.out.1
  rcases Nat.eq_or_lt_of_le hi with hin |hin
  ·subst hin
   have hlt:¬((i:Int)<(i:Int)):=by omega
   have HT:=Lib.hid hH.out.tl;clear hw1;go_wp2_with fail;refine(vmake_calls k _ _ wr HT.out (by rw[gaN_len];exact hnb) (by rw[gaN_len];exact HK.out)).mono ?_;rw[gaN_len];rintro e w2 ⟨v2,rfl,t2,e2⟩;have T2:=Lib.hid (t2.mono (e1.trans hE0).size);clear t2;go_wp2;go_ret;exact⟨_,rfl,T2.out,e1.trans (hE0.trans e2)⟩
  ·have hlt:(i:Int)<(vn:Int):=by omega
   obtain⟨y,hy⟩:∃y,vars[i]? =some y:=⟨_,List.getElem?_eq_getElem (by rw[←Hn.out];exact hin)⟩;obtain⟨gv0,ov,rfl,nm,l,h,c,hcell, -,hR⟩:=HAV.out i y hy;obtain⟨hc0,hc1,hc2,hc3,hc4,hc5,hc6,hc7,hc8,hc9,hc10,hc11,hc12⟩:=hcell wr (e1.trans hE0);have HX:=Lib.hid (And.intro (costs_at hy) (hR.ext e1))
   have hvi:vs.length=i:=hH.out.2.2.1
   subst hvi;have hwr:=hE0.size;obtain⟨w5,hw5,e5,b5,s5⟩:=alloc1 wr #[.string nm,.bool y.1,.bool y.2.1.1,.bool y.2.1.2.1,.bool l.b,.slice l.a1 l.n1 l.c1,.slice l.a2 l.n2 l.c2,.bool h.b,.slice h.a1 h.n1 h.c1,.slice h.a2 h.n2 h.c2,.bool c.b,.slice c.a1 c.n1 c.c1,.slice c.a2 c.n2 c.c2] 43;have hd0:=b5.cell 0;have hd1:=b5.cell 1;have hd2:=b5.cell 2;have hd3:=b5.cell 3;have hd4:=b5.cell 4;have hd5:=b5.cell 5;have hd6:=b5.cell 6;have hd7:=b5.cell 7;have hd8:=b5.cell 8;have hd9:=b5.cell 9;have hd10:=b5.cell 10;have hd11:=b5.cell 11;have hd12:=b5.cell 12;have hls5:Hid (LS 95 4 w1.heap.size w5 (.slice ado vs.length capo) vs):=Lib.hid (hH.out.2.1.ext e5);rw[hw5]at hd0 hd1 hd2 hd3 hd4 hd5 hd6 hd7 hd8 hd9 hd10 hd11 hd12;have HW5:=Lib.hid hw5;clear hcell hy hR hw5 hw1
   have hs5:w5.heap.size=wr.heap.size+1:=s5
   go_wp2_with (first
    | (at_builtin;go_loud (refine wpList_append_LS rfl _ _ 31 rfl 95 4 64 w1.heap.size Tryz.underlying31 (by kernel_rfl) (by kernel_rfl) (by omega) _ vs rfl (by rw[←HW5.out];exact hls5.out.ext ((Ext.refl _).alloc _)) ⟨wr.heap.size+1,0,none⟩ #[.int .i64 (vs.length:Int),.bool c.b,.slice c.a1 c.n1 c.c1,.slice c.a2 c.n2 c.c2] rfl rfl (by rw[←HW5.out,←hs5];exact news_new _ _ _) (by kernel_rfl) (by omega) (by omega) (by rw[alloc_size,←HW5.out];omega) ?_);intro g' cap2' w7 hls7 hg7 hwh7 hlt7)
    |fail)
   go_roundw
   case rel=>
    rw[←HW5.out]at hg7;have hA:=(Ext.refl w5).alloc (.cells #[.int .i64 (vs.length:Int),.bool c.b,.slice c.a1 c.n1 c.c1,.slice c.a2 c.n2 c.c2] 95);have hE7:Ext w1 w7:=((hE0.trans e5).trans hA).stepG hg7 hls5.out.ge;exact⟨vs.length+1,_,some ⟨g',0,none⟩,cap2',by omega,by simp,rfl,Lib.hid (hH.out.app hE7 hls7 HX.out.1 HX.out.2)⟩
   case measure=>simp [intOf];omega
set_option maxHeartbeats 2000000 in
theorem mcost_calls(k kx K:Nat)(v u:Value)(p:PbR)(xs:List Rat)(w:World)(hp:PbV k w v p)(hx:QL kx w u xs)(hnb:p.2.length≤1073741824)(hk:(p.2.length+1)*(k+1)≤K)(hK:(p.2.length+1)*(K+kx+1)≤34359738000):
  Calls Tryz.prog 38 #[v,u] w fun e w'=>∃v',e= .returned v'∧FrQ w.heap.size w' v' (costP p xs)∧szQ (costP p xs)≤p.2.length*(K+kx+1)+1∧Ext w w':=by
 have hl:(objP p).length≤p.2.length:=by
  have:=mkV_len (gaN (costs p.2) p.2.length)
  rw[gaN_len]at this;exact this
 have hKK:K+kx+1≤34359738000:=Nat.le_trans (Nat.le_mul_of_pos_left _ (by omega)) hK
 have lim:68719476736≤LIM:=by rw[LIM_eq];omega
 have h1:p.2.length*(k+1)≤K:=Nat.le_trans (Nat.mul_le_mul_right _ (by omega)) hk
 have h2:(p.2.length+1)*(k+1)≤34359738000:=by omega
 have hp':=hp;obtain⟨n0,n1,ra,rn,rc,va,vn,vc,rfl, -, -⟩:=hp';have HP:=Lib.hid hp;have HX:=Lib.hid hx;have HL:=Lib.hid hl;have HK:=Lib.hid (And.intro hK (And.intro h1 (And.intro h2 hnb)));clear hp hx hl hK hk h1 h2 hnb;obtain⟨w1,hw1,e1,b1_,b2_,s1⟩:=alloc2 w #[.string n0,.string n1,.slice ra rn rc,.slice va vn vc] #[.bool false,.slice none 0 0,.slice none 0 0] 25 41
 go_enter Tryz.func38,Tryz.ntmps38
 go_wp2_with fail;rw[←hw1];refine(mobj_calls k _ p w1 (HP.out.ext e1) HK.out.2.2.2 HK.out.2.2.1).mono ?_;rintro e w2 ⟨v2,rfl,t2,e2⟩;have T2:=Lib.hid t2;clear t2 hw1;go_wp2_with fail;refine(vdot_calls K kx _ _ (objP p) xs w2 ((T2.out.le HK.out.2.1).tl (by omega)) (HX.out.ext (e1.trans e2)) (Nat.le_trans (Nat.mul_le_mul_right _ (by have:=HL.out;omega)) HK.out.1)).mono ?_;rintro e w3 ⟨v3,rfl,q3,z3,e3⟩;have hs2:=(e1.trans e2).size;obtain⟨b3,a31,n31,c31,a32,n32,c32,rfl,hf3⟩:=FrQ.opn q3;have HF:=Lib.hid (And.intro (hf3.mono (show w.heap.size+2≤w2.heap.size by have:=e2.size;omega)) z3);have hb:=b2_.ext (e2.trans e3);have hb0:=hb.cell 0;have hbf0:=hb.free 0;have hb1:=hb.cell 1;have hbf1:=hb.free 1;have hb2:=hb.cell 2;have hbf2:=hb.free 2;clear q3 hf3 z3;go_wp2;refine ret_box 4 41 (w.heap.size+1) 41 _ _ (by kernel_rfl) rfl (((hb.set 0 _).set 1 _).set 2 _) Tryz.underlying41 rfl (by kernel_rfl) rfl ?_;have hc:Chg (w.heap.size+1) w3 _:=((Chg.setCell w3 (w.heap.size+1) 0 (.bool b3)).trans (Chg.setCell _ (w.heap.size+1) 1 (.slice a31 n31 c31))).trans (Chg.setCell _ (w.heap.size+1) 2 (.slice a32 n32 c32));refine⟨_,rfl,(HF.out.1.chg hc (by omega)).mono (by omega),Nat.le_trans HF.out.2 (Nat.add_le_add_right (Nat.mul_le_mul_right _ HL.out) 1),((e1.trans e2).trans e3).step hc (by omega)⟩
def whlP(p:PbR):List Bool:=p.2.map fun v=>v.1
set_option maxHeartbeats 2000000 in
theorem mwhole_calls(k:Nat)(v:Value)(p:PbR)(w:World)(hp:PbV k w v p)(hnb:p.2.length≤1073741824):
  Calls Tryz.prog 20 #[v] w fun e w'=>∃v',e= .returned v'∧w'.ownsRow w.heap.size 4 1 v' p.2.length ((whlP p).map Value.bool)∧Ext w w':=by
 obtain⟨rows,vars⟩:=p;obtain⟨n0,n1,ra,rn,rc,va,vn,vc,rfl,hr,hvv⟩:=hp;obtain⟨va',n,vc',hn,hve,hn1,hatv⟩:=hvv.at;simp only[Value.slice.injEq]at hve;obtain⟨rfl,rfl,rfl⟩:=hve;have Hn:=Lib.hid hn;have HAV:=Lib.hid hatv;obtain⟨w1,hw1,e1,b1_,s1⟩:=alloc1 w #[.string n0,.string n1,.slice ra rn rc,.slice va vn vc] 25
 simp only at hn hatv hnb ⊢
 rw[←hn]at hnb ⊢;clear hr hvv hn hatv
 go_enter Tryz.func20,Tryz.ntmps20
 go_wp2_with fail;rw[←hw1]
 go_loopw [2,8] (fun s2 s8 wr=>∃(i:Nat) (ado:Option Addr) (capo:Nat),i≤vn∧s8= .int .i64 (i:Int)∧s2= .slice ado i capo∧Hid (wr.ownsRow w1.heap.size 4 1 (.slice ado i capo) i (((vars.take i).map fun v=>v.1).map Value.bool))∧Ext w1 wr) (fun _ s8 _=>((vn:Int) - intOf s8).toNat)
 case atStart=>exact ⟨0,none,0,Nat.zero_le _,rfl,rfl,Lib.hid ⟨rfl,.inl ⟨rfl,rfl⟩⟩,Ext.refl _⟩
 case round=>
  obtain⟨i,ado,capo,hi,rfl,rfl,hH,hE0⟩:=hrel
  rcases Nat.eq_or_lt_of_le hi with hin |hin
  ·have hlt:¬((i:Int)<(vn:Int)):=by omega
   have HO:=Lib.hid (show wr.ownsRow w.heap.size 4 1 (.slice ado vn capo) vn ((whlP (rows,vars)).map Value.bool)from by
    have h5:=hH.out;rw[hin,List.take_of_length_le (by rw[←Hn.out];exact Nat.le_refl _)]at h5
    exact ownsRow_monoI h5 e1.size)
   clear hH hw1;go_wp2;go_ret;exact⟨_,rfl,HO.out,e1.trans hE0⟩
  ·have hlt:(i:Int)<(vn:Int):=by omega
   obtain⟨y,hy⟩:∃y,vars[i]? =some y:=⟨_,List.getElem?_eq_getElem (by rw[←Hn.out];exact hin)⟩;obtain⟨gv0,ov,rfl,nm,l,h,c,hcell, -, -⟩:=HAV.out i y hy;obtain⟨hc0,hc1,hc2,hc3,hc4,hc5,hc6,hc7,hc8,hc9,hc10,hc11,hc12⟩:=hcell wr (e1.trans hE0);have HTK:=Lib.hid (take_next hy);have hwr:=hE0.size;have hw1s:=e1.size;obtain⟨w5,hw5,e5,b5,s5⟩:=alloc1 wr #[.string nm,.bool y.1,.bool y.2.1.1,.bool y.2.1.2.1,.bool l.b,.slice l.a1 l.n1 l.c1,.slice l.a2 l.n2 l.c2,.bool h.b,.slice h.a1 h.n1 h.c1,.slice h.a2 h.n2 h.c2,.bool c.b,.slice c.a1 c.n1 c.c1,.slice c.a2 c.n2 c.c2] 43;have hd0:=b5.cell 0;have hd1:=b5.cell 1;have hd2:=b5.cell 2;have hd3:=b5.cell 3;have hd4:=b5.cell 4;have hd5:=b5.cell 5;have hd6:=b5.cell 6;have hd7:=b5.cell 7;have hd8:=b5.cell 8;have hd9:=b5.cell 9;have hd10:=b5.cell 10;have hd11:=b5.cell 11;have hd12:=b5.cell 12
   have hls5:Hid (w5.ownsRow w1.heap.size 4 1 (.slice ado i capo) i (((vars.take i).map fun v=>v.1).map Value.bool)):=Lib.hid (ownsRow_extI hH.out e5)
   rw[hw5]at hd0 hd1 hd2 hd3 hd4 hd5 hd6 hd7 hd8 hd9 hd10 hd11 hd12;have HW5:=Lib.hid hw5;clear hcell hy hw5 hw1
   have hs5:w5.heap.size=wr.heap.size+1:=s5
   go_wp2_with (first
    | (at_builtin;go_loud (refine wpList_append_V rfl _ _ 33 rfl 4 1 w1.heap.size Tryz.underlying33 (by kernel_rfl) (by kernel_rfl) _ i (((vars.take i).map fun v=>v.1).map Value.bool) rfl (by rw[←HW5.out];exact ownsRow_extI hls5.out ((Ext.refl _).alloc _)) ⟨wr.heap.size+1,0,none⟩ (.bool y.1) rfl (by rw[←HW5.out,←hs5];exact cell_one_new _ _ _) rfl (by omega) (by omega) (by rw[alloc_size,←HW5.out];omega) ?_);intro g' cap2' w7 hls7 hg7 hwh7 hlt7)
    |fail)
   go_roundw
   case rel=>
    rw[←HW5.out]at hg7;have hA:=(Ext.refl w5).alloc (.cells #[.bool y.1] 4);have hE7:Ext w1 w7:=((hE0.trans e5).trans hA).stepG hg7 (fun g hg=>by have:=ownsRow_ge hls5.out g hg;omega);refine⟨i+1,some ⟨g',0,none⟩,cap2',by omega,by simp,rfl,Lib.hid ?_,hE7⟩;rw[HTK.out,List.map_append,List.map_append];exact hls7
   case measure=>simp [intOf];omega
set_option maxHeartbeats 2000000 in
theorem robj_calls(k:Nat)(v:Value)(p:PbR)(w:World)(hp:PbV k w v p)(hnb:p.2.length≤1000)(hk:k≤1000000):
  Calls Tryz.prog 24 #[v] w fun e w'=>∃v',e= .returned v'∧TO w.heap.size (p.2.length*(k+1)+1) w' v' (objP p)∧Ext w w':=by
 obtain⟨rows,vars⟩:=p;obtain⟨n0,n1,ra,rn,rc,va,vn,vc,rfl,hr,hvv⟩:=hp;obtain⟨va',n,vc',hn,hve,hn1,hatv⟩:=hvv.at;simp only[Value.slice.injEq]at hve;obtain⟨rfl,rfl,rfl⟩:=hve;have Hn:=Lib.hid hn;have HAV:=Lib.hid hatv;obtain⟨w1,hw1,e1,b1_,s1⟩:=alloc1 w #[.string n0,.string n1,.slice ra rn rc,.slice va vn vc] 25
 simp only at hn hatv hnb hk ⊢
 rw[←hn]at hnb ⊢
 have HOB:Hid (objP (rows,vars)=mkV (gaN (costs vars) vn)):=Lib.hid (by rw[hn];rfl)
 rw[HOB.out];have eb:=emptyT;clear hr hvv hn hatv;obtain⟨w2,hw2⟩:∃w2,w2=w1.alloc (.cells #[] 95):=⟨_,rfl⟩;have e2:Ext w1 w2:=hw2▸(Ext.refl _).alloc _;have hls0:LS 95 4 w1.heap.size w2 (.slice (some ⟨w1.heap.size,0,none⟩) 0 0) []:=hw2▸LS.empty 95 4 w1.heap.size w1 (Nat.le_refl _)
 have hs1:w1.heap.size=w.heap.size+1:=s1
 have HL0:=Lib.hid hls0;have HS1:=Lib.hid hs1;clear hls0
 have hw2':w2=(w.alloc (.cells #[.string n0,.string n1,.slice ra rn rc,.slice va vn vc] 25)).alloc (.cells #[] 95):=by rw[hw2,hw1]
 have HW2:=Lib.hid hw2';clear hw2' hw2 hs1
 go_enter Tryz.func24,Tryz.ntmps24
 go_wp2_with fail;rw[←HW2.out]
 go_loopw [3,4] (fun s3 s4 wr=>∃(i:Nat) (vs:List Value) (ado:Option Addr) (capo:Nat),i≤vn∧s4= .int .i64 (i:Int)∧s3= .slice ado i capo∧Hid (GaJ w1 wr k i (costs vars) (.slice ado i capo) vs)) (fun _ s4 _=>((vn:Int) - intOf s4).toNat)
 case atStart=>exact ⟨0,[],some ⟨w.heap.size+1,0,none⟩,0,Nat.zero_le _,rfl,rfl,Lib.hid ⟨e2,by rw[←HS1.out];exact HL0.out,rfl,[],rfl,rfl,fun p hp=>by cases hp⟩⟩
 case round=>
  obtain⟨i,vs,ado,capo,hi,rfl,rfl,hH⟩:=hrel;have hE0:=hH.out.1;have hb:=b1_.ext hE0;have hb0:=hb.cell 0;have hb1:=hb.cell 1;have hb2:=hb.cell 2;have hb3:=hb.cell 3
  rcases Nat.eq_or_lt_of_le hi with hin |hin
  ·subst hin
   have hlt:¬((i:Int)<(i:Int)):=by omega
   have HT:=Lib.hid hH.out.tl;clear hw1;go_wp2_with fail;refine(make5_calls k _ _ wr HT.out hk (by rw[gaN_len];exact hnb)).mono ?_;rw[gaN_len];rintro e w3 ⟨v2,rfl,t2,e3⟩;have T2:=Lib.hid (t2.mono (e1.trans hE0).size);clear t2;go_wp2;go_ret;exact⟨_,rfl,T2.out,e1.trans (hE0.trans e3)⟩
  ·have hlt:(i:Int)<(vn:Int):=by omega
   obtain⟨y,hy⟩:∃y,vars[i]? =some y:=⟨_,List.getElem?_eq_getElem (by rw[←Hn.out];exact hin)⟩;obtain⟨gv0,ov,rfl,nm,l,h,c,hcell, -,hR⟩:=HAV.out i y hy;obtain⟨hc0,hc1,hc2,hc3,hc4,hc5,hc6,hc7,hc8,hc9,hc10,hc11,hc12⟩:=hcell wr (e1.trans hE0);have HX:=Lib.hid (And.intro (costs_at hy) (hR.ext e1))
   have hvi:vs.length=i:=hH.out.2.2.1
   subst hvi;have hwr:=hE0.size;have hls5:Hid (LS 95 4 w1.heap.size wr (.slice ado vs.length capo) vs):=Lib.hid hH.out.2.1;clear hcell hy hR hw1
   go_wp2_with (first
    | (at_builtin;go_loud (refine wpList_append_LS rfl _ _ 31 rfl 95 4 64 w1.heap.size Tryz.underlying31 (by kernel_rfl) (by kernel_rfl) (by omega) _ vs rfl (hls5.out.ext ((Ext.refl _).alloc _)) ⟨wr.heap.size,0,none⟩ #[.int .i64 (vs.length:Int),.bool c.b,.slice c.a1 c.n1 c.c1,.slice c.a2 c.n2 c.c2] rfl rfl (news_new _ _ _) (by kernel_rfl) (by omega) (by omega) (by rw[alloc_size];omega) ?_);intro g' cap2' w7 hls7 hg7 hwh7 hlt7)
    |fail)
   go_roundw
   case rel=>
    have hA:=(Ext.refl wr).alloc (.cells #[.int .i64 (vs.length:Int),.bool c.b,.slice c.a1 c.n1 c.c1,.slice c.a2 c.n2 c.c2] 95);have hE7:Ext w1 w7:=(hE0.trans hA).stepG hg7 hls5.out.ge;exact⟨vs.length+1,_,some ⟨g',0,none⟩,cap2',by omega,by simp,rfl,Lib.hid (hH.out.app hE7 hls7 HX.out.1 HX.out.2)⟩
   case measure=>simp [intOf];omega
end Go.Proofs.YtbmnlaepfckmkaaGreat
