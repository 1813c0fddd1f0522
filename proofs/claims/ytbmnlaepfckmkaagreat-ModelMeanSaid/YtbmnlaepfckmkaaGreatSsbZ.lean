/-
 A region that draws its order, calls, and at its end appends to a list of structs of one's own, or stores a part of one of its structs; plain.
-/
import Derived.Test.YtbmnlaepfckmkaaGreatSsaZ
import Derived.Test.YtbmnlaepfckmkaaGreatComZ
import Derived.Test.YtbmnlaepfckmkaaGreatShelf
namespace Go.Proofs.YtbmnlaepfckmkaaGreat
set_option maxRecDepth 100000
set_option maxHeartbeats 1000000
open Go.RowKit
set_option linter.unusedVariables false
set_option linter.unusedSimpArgs false
theorem append_where{P:Program}(w:World)(base:Nat)(t ty e:TypeId)(i:TypeInfo)(z:Value)(size bytes:Nat)(ht:P.underlying t=some (.slice e))(hi:P.info? e=some i)(hz:i.zero=some z)
  (hsize:i.size=size) (hby:i.bytes=bytes) (v:Value) (n:Nat) (xs:List Value) (hown:w.ownsRow base e size v n xs)
  (a:Addr) (m c:Nat) (news:List Value) (hl:news.length=m*size) (hnews:∀j u,news[j]? =some u→w.cell? (a.add j)=some u) (h1:∀u∈news,u.oneCell'=true)
  (hm:0<m) (h63:n+m≤maxLen) (hbytes:(n+m)*bytes≤140737488355328) (v':Value) (w':World) (hrun:(Builtin.append_ #[t,t] ty #[v,.slice (some a) m c]).run P w= .ok v' w'):
  ∀g,v'.ownBlock=some g→v.ownBlock=some g∨w.heap.size≤g:=by
 subst hsize hby
 have hsmall:n+m≤9223372036854775807:=by simp only[maxLen]at h63;omega
 intro g0 hg0
 rcases hown.2 with⟨rfl,rfl⟩ |⟨g,cap,cur,rfl,hbg,hg,hnc,hcm,hcs,htake⟩
 ·have hr:=run_append_nil (P:=P) w t ty e i z ht hi hz a m c news hl hnews (by omega) (by omega) (by have hb:=hbytes;simp only[Nat.zero_add]at hb;omega);rw[hr]at hrun
  cases hrun
  simp only[Value.ownBlock,Option.some.injEq]at hg0;exact .inr (by omega)
 ·by_cases hroom:n+m≤cap
  ·have hfit:n*i.size+news.length≤cur.size:=by rw[hl,hcs,←Nat.add_mul];exact Nat.mul_le_mul_right _ hroom
   have hr:=run_append_room (P:=P) w t ty e i ht hi g n cap cur hg a m c news hl hnews h1 hroom hfit;rw[hr]at hrun
   cases hrun
   exact .inl hg0
  ·have holds:∀j u,xs[j]? =some u→w.cell? ((⟨g,0,none⟩:Addr).add j)=some u:=hown.cells (g:=g) rfl
   have hr:=run_append_grow (P:=P) w t ty e i z ht hi hz ⟨g,0,none⟩ n cap xs hown.1 holds a m c news hl hnews (by omega) (by omega) (growslice_fits (by omega) hbytes);rw[hr]at hrun
   cases hrun
   simp only[Value.ownBlock,Option.some.injEq]at hg0;exact .inr (by omega)
theorem og_append{P:Program}{o:Oper}{a:Act}{f:Nat→Value}{w:World}{R:World→World→Prop}{post:Value→World→Prop}(s x:Operand)(t:TypeId)(hgd:o.guard=none)(ho:o.op= .call {callee:= .builtin .append,args:=#[s,x],argTypes:=#[t,t]})
  (base:Nat) (e:TypeId) (size bytes:Nat) (ht:P.underlying t=some (.slice e)) (hi:(P.info? e).map (fun i=>(i.size,i.bytes))=some (size,bytes)) (hz:((P.info? e).bind (·.zero)).map (·.cells.size)=some size) (hsz:0<size)
  (v:Value) (n:Nat) (xs:List Value) (hs:a.eval s=v) (hown:w.ownsRow base e size v n xs)
  (ad:Addr) (m c:Nat) (news:List Value) (hx:a.eval x= .slice (some ad) m c) (hl:news.length=m*size) (hnews:∀j u,news[j]? =some u→w.cell? (ad.add j)=some u) (h1:∀u∈news,u.oneCell'=true)
  (hm:0<m) (h63:n+m≤maxLen) (hbytes:(n+m)*bytes≤140737488355328) (hbase:base≤w.heap.size)
  (h:∀v' w',w'.ownsRow base e size v' (n+m) (xs++news)→w.grownBy w' v.ownBlock→(∀g,v'.ownBlock=some g→v.ownBlock=some g∨w.heap.size≤g)→R w w'∧post v' w'):OpGoal P o a f w R post:=by
 unfold OpGoal;rw[hgd]
 cases hie:P.info? e with
 |none=>simp [hie]at hi
 |some i=>
  simp only[hie,Option.map_some,Option.some.injEq,Prod.mk.injEq,Option.bind_some]at hi hz
  cases hiz:i.zero with
  |none=>rw [hiz]at hz;cases hz
  |some z=>
   rw[hiz]at hz;obtain⟨v',w',hr,h2,h3, -⟩:=run_append_own (P:=P) w base t o.type e i z size bytes ht hie hiz hi.1 hi.2 (by simpa using hz) hsz v n xs hown ad m c news hl hnews h1 h63 hbytes hbase;have h4:=append_where w base t o.type e i z size bytes ht hie hiz hi.1 hi.2 v n xs hown ad m c news hl hnews h1 hm h63 hbytes v' w' hr;unfold Oper.wp
   simp[execOp,ho,resolve,invoke,builtin,hs,hx,hr,Result.andThen]
   exact⟨v',rfl,h v' w' h2 h3 h4⟩
def postO{S:Nat}(s1:Nat)(F:Value→World→Prop)(L:List (PP S))(k:Nat)(v:Value)(w1:World):Prop:=
 if k=s1 then F v w1 else(L.getD k PP.any).p v w1
theorem tellO{S:Nat}{w1:World}{s1:Nat}{F:Value→World→Prop}{L:List (PP S)}{f:Nat→Value}{l:List Edge}(hp:PostsOf (postO s1 F L) f w1 l)(n j:Nat)
  (h:(match l[n]? with |some e=>Region.binds .any e&&e.on==j |none=>false)=true) (hs:(j==s1)=false):(L.getD j PP.any).p (f j) w1:=by
 have:=postsOf_nth l n j h hp
 unfold postO at this;rw[if_neg (by simpa using hs)]at this;exact this
def opt2(k s1 s2:Nat):Option Bool:=if k=s1 then some true else if k=s2 then some false else none
def OweO{S:Nat}(P:Program)(fr:(Nat→Value)→Array Value)(df:List Deferred)(w:World)(gA s1 s2:Nat)(F:Value→World→Prop)(L:List (PP S))(lates:List (Nat×Nat×Nat))(tmps:Array Value)(pre:List Nat)(k:Nat)(o:Oper):Prop:=
 ∀f w1,(if pre.contains k then Ext w w1 else Chg gA w w1)→PostsOf (postO s1 F L) f w1 o.after.toList→LateFacts tmps f k lates→
  match opt2 k s1 s2 with
  |some true=>OpGoal P o ⟨fr f,df⟩ f w1 (Chg gA) F
  |some false=>OpGoal P o ⟨fr f,df⟩ f w1 Ext (fun v _=>v=f s1)
  |none=>OpGoal P o ⟨fr f,df⟩ f w1 Ext (L.getD k PP.any).p
def OwesO{S:Nat}(P:Program)(fr:(Nat→Value)→Array Value)(df:List Deferred)(w:World)(gA s1 s2:Nat)(F:Value→World→Prop)(L:List (PP S))(lates:List (Nat×Nat×Nat))(tmps:Array Value)(pre:List Nat):List Oper→Nat→Prop
 | [],_=>True
 |o::l,k=>OweO P fr df w gA s1 s2 F L lates tmps pre k o∧OwesO P fr df w gA s1 s2 F L lates tmps pre l (k+1)
theorem owesO_at{S:Nat}{P:Program}{fr:(Nat→Value)→Array Value}{df:List Deferred}{w:World}{gA s1 s2:Nat}{F:Value→World→Prop}{L:List (PP S)}{lates:List (Nat×Nat×Nat)}{tmps:Array Value}{pre:List Nat}:
  ∀(l:List Oper) (k:Nat),OwesO P fr df w gA s1 s2 F L lates tmps pre l k→∀i o,l[i]? =some o→OweO P fr df w gA s1 s2 F L lates tmps pre (k+i) o
 | [],_,_,i,o,h=>by simp at h
 |x::l,k,hs,i,o,h=>by
  cases i with
  |zero=>
   simp only[List.getElem?_cons_zero,Option.some.injEq]at h;subst h;exact hs.1
  |succ i=>
   have:=owesO_at l (k+1) hs.2 i o (by simpa using h)
   rwa [show k+1+i=k+(i+1)by omega]at this
theorem wp_region_one{P:Program}{id:Nat}{l:List Oper}{Q:Exit→Act→World→Prop}{tmps:Array Value}{df:List Deferred}{w:World}{fr:(Nat→Value)→Array Value}
  (gA s1 s2:Nat) (F:Value→World→Prop) (L:List (PP w.heap.size)) (lates:List (Nat×Nat×Nat)) (pre:List Nat)
  (hm:P.follows .mixedOrders=true) (hok:(regOk l.toArray tmps.size&&lateOk l.toArray lates&&ancOk l.toArray [s1] (pre.filter (· !=s1))&&(decide (l.length≤s2) || ancOk l.toArray [s2] [s1]))=true)
  (hfr:∀f,fillR l.toArray tmps f=fr f)
  (hss:s1≠s2) (hA:gA<w.heap.size) (hF:∀u w1 w2,Ext w1 w2→F u w1→F u w2) (hL:∀p∈L,p.c=false) (hL2:∀v w,(L.getD s2 PP.any).p v w)
  (hstep:OwesO P fr df w gA s1 s2 F L lates tmps pre l 0)
  (hend:∀f w1,Chg gA w w1→F (f s1) w1→(s2<l.length→f s2=f s1)→AllPosts (postO s1 F L) f w1 l.length 0→Q .normal ⟨fr f,df⟩ w1)
  (hs1:s1<l.length):
  (Code.region id l.toArray true).wp P Q ⟨tmps,df⟩ w:=by
 simp only[Bool.and_eq_true]at hok;obtain⟨⟨⟨hok1,hok2⟩,hok3⟩,hok4⟩:=hok
 have hLk:∀k,(L.getD k PP.any).c=false:=fun k=>by
  by_cases hk:k<L.length
  ·rw[List.getD,List.getElem?_eq_getElem hk];exact hL _ (List.getElem_mem hk)
  ·rw[List.getD,List.getElem?_eq_none (by omega)]
   rfl
 have hanc2:s2<l.length→Anc l.toArray s1 s2:=fun h2=>by
  rcases Bool.or_eq_true .. ▸hok4 with h |h
  ·have:=of_decide_eq_true h;omega
  ·exact anc_of _ [s2] (fun j hj=>by rw[show j=s2 by simpa using hj];exact .self) h s1 (by simp)
 refine wp_region_posts (D:=fun listed f _=>listed s2=true→s2<l.length→listed s1=true∧f s2=f s1) (G:=fun a b=>Chg gA a b) (G0:=fun s a b=>s=s1→Ext a b)
  (R:=fun i w1 w2=>if i=s1 then Chg gA w1 w2 else Ext w1 w2) (post:=postO s1 F L) hm hok1 (fun _ h=>by cases h) (((Ext.refl w).drew).chg gA) (fun s _=>(Ext.refl w).drew) ?_ ?_ ?_ ?_ ?_
 ·intro i w1 w2 hG hR
  by_cases hi:i=s1
  ·simp only[hi,if_true]at hR;exact hG.trans hR
  ·simp only[hi,if_false]at hR;exact hG.trans (hR.chg gA)
 ·intro s i w1 w2 his h hR hs;subst hs;simp only[his,if_false]at hR;exact(h rfl).trans hR
 ·intro i j v w1 w2 hij hG hR hp;unfold postO at hp ⊢
  by_cases hj:j=s1
  ·simp only[hj,if_true]at hR
   have hi:i≠s1:=fun h=>hij (by rw[h,hj])
   simp only[hi,if_false]at hp ⊢;exact(L.getD i PP.any).m2 (hLk i) _ hA _ _ _ hR hp
  ·simp only[hj,if_false]at hR
   by_cases hi:i=s1
   ·simp only[hi,if_true]at hp ⊢;exact hF _ _ _ hR hp
   ·simp only[hi,if_false]at hp ⊢;exact(L.getD i PP.any).m _ _ _ hR hp
 ·intro i o ho listed f w1 hli hbefore hD hG hpre hp hl;have hO:=owesO_at l 0 hstep i o (by simpa using ho)
  have hil:i<l.length:=by
   have:=(Array.getElem?_eq_some_iff.1 ho).1
   simpa using this
  rw[Nat.zero_add]at hO;rw[hfr]
  have hEE:(if pre.contains i then Ext w w1 else Chg gA w w1):=by
   split
   ·rename_i hpi
    have hanc:Anc l.toArray i s1:=by
     by_cases his:i=s1
     ·rw[his];exact .self
     ·refine anc_of _ [s1] (fun j hj=> ?_) hok3 i (List.mem_filter.2 ⟨by simpa using hpi,by simpa using his⟩)
      have:j=s1:=by simpa using hj
      rw[this];exact .self
    exact hpre s1 hanc rfl
   ·exact hG
  have hg:=hO f w1 hEE (postsOf_of _ fun e he hb=>hp e (Array.mem_toList_iff.1 he) hb) (lateFacts_of hl lates hok2);unfold postO
  by_cases h1:i=s1
  ·subst h1;simp only[opt2,if_true]at hg;refine OpGoal.mono (fun w' h=>by simp only[if_true];exact h) (fun v w' _ h=>⟨by simp only[if_true];exact h,fun h2 h3=> ?_⟩) (fun h=>⟨by simp only[if_true];exact h,fun h2 h3=> ?_⟩) hg
   ·simp only[Ne.symm hss,if_false]at h2
    have:=(hD h2 h3).1
    rw[hli]at this
    cases this
   ·simp only[Ne.symm hss,if_false]at h2
    have:=(hD h2 h3).1
    rw[hli]at this
    cases this
  ·by_cases h2:i=s2
   ·subst h2;simp only[opt2,h1,if_false,if_true]at hg;have hb:=hbefore s1 (hanc2 hil) hss
    have fin:∀v,v=f s1→(if s1=i then true else listed s1)=true∧(if i=i then v else f i)=(if s1=i then v else f s1):=fun v hv=>by
     simp only[hss,if_false,if_true];exact⟨hb,hv⟩
    exact OpGoal.mono (fun w' h=>by simp only[h1,if_false];exact h) (fun v w' _ h=>⟨by simp only[h1,if_false];exact hL2 v w',fun _ _=>fin v h⟩) (fun h=>⟨by simp only[h1,if_false];exact hL2 undef w1,fun _ _=>fin undef h⟩) hg
   ·simp only[opt2,h1,h2,if_false]at hg;refine OpGoal.mono (fun w' h=>by simp only[h1,if_false];exact h) (fun v w' _ h=>⟨by simp only[h1,if_false];exact h,fun h3 h4=> ?_⟩) (fun h=>⟨by simp only[h1,if_false];exact h,fun h3 h4=> ?_⟩) hg
    ·simp only[Ne.symm h2,if_false]at h3;simp only[h3,Ne.symm h1,Ne.symm h2,if_false];exact hD h3 h4
    ·simp only[Ne.symm h2,if_false]at h3;simp only[h3,Ne.symm h1,Ne.symm h2,if_false];exact hD h3 h4
 ·intro f w1 hG hp hd;obtain⟨listed,hall,hd⟩:=hd;rw[hfr];have hF1:=hp s1 (by simpa using hs1);unfold postO at hF1;rw[if_pos rfl]at hF1;exact hend f w1 hG hF1 (fun h2=>(hd (hall s2 (by simpa using h2)) h2).2) (allPosts_of _ _ fun i _ hi=>hp i (by simpa using hi))
open Go.ChangeShapes Go.WideShapes Go.ChangeAt
theorem cellsQs:Tryz.prog.cellsOf 41=3:=by kernel_rfl
section
variable {H:Type} {enc:TypeId×Value→H} {w:World} {base:Nat} {spare:Nat→Bool} {held:Bool}
theorem open_ratsS{v:Value}{d:DataW H}{p:List MemPlace}{W0:World}{b0:Nat}(hv:Value.okWide Tryz.prog W0 .any b0 49 v)(h:DataW.Trod enc Tryz.prog w base spare held 49 v d p)(B:Nat)(hb:B≤4611686018427387903)(hB:∀n∈d.weights Tryz.prog 49,n≤B):
  ∃l,SLQ w v l∧l.length*Tryz.prog.bytesOf 41≤B:=by
 obtain⟨a,n,c,rfl⟩:=okWide_slice Tryz.underlying49 hv;obtain⟨fuel,hf⟩:=h
 obtain⟨v',ys,h1,h2,h3, -⟩:=open_structs (R:=RawE) (F:=fun _ _=>True) B Tryz.underlying49 cellsQs (by omega) (fun fuel cs x hl hw hx=>by
  obtain⟨b,s,t,xs,ys,rfl,hL,hd,hL2,hd2,hB2, -⟩:=open_ratC hx;have hh:=hB2 B hw
  exact⟨(b,xs,ys),⟨⟨s,t,rfl,hL,hL2⟩,hd,hd2,by show xs.length+ys.length≤_;omega⟩,trivial⟩) hB hf
 have hcs:(Value.slice a n c).cells.toList=[Value.slice a n c]:=rfl
 rw[hcs]at h1
 cases h1
 exact⟨ys,h2,h3⟩
end
structure TmC where
 c:Int
 b:Bool
 a1:Option Addr
 n1:Nat
 c1:Nat
 a2:Option Addr
 n2:Nat
 c2:Nat
def tmv(t:TmC):Value:= .agg #[.int .i64 t.c,.bool t.b,.slice t.a1 t.n1 t.c1,.slice t.a2 t.n2 t.c2]
def tkey(t:TmC):Int:=t.c
theorem strN_tmv(l:List TmC):StrN 4 (l.map tmv):=fun v hv=>by
 obtain⟨t, -,rfl⟩:=List.mem_map.1 hv;exact⟨_,rfl,rfl,all4 rfl rfl rfl rfl⟩
theorem strN_tmv1(t:TmC):StrN 4 [.agg #[.int .i64 t.c,.bool t.b,.slice t.a1 t.n1 t.c1,.slice t.a2 t.n2 t.c2]]:=strN_tmv [t]
def HoldT(g:Nat)(rest:List Value)(w:World)(l:List TmC):Prop:=HoldS 95 4 g rest w (l.map tmv)
theorem HoldT.ext{g:Nat}{rest:List Value}{w w':World}{l:List TmC}(h:HoldT g rest w l)(he:Ext w w'):HoldT g rest w' l:=HoldS.ext h he
theorem HoldT.at{g:Nat}{rest:List Value}{w:World}{l:List TmC}(h:HoldT g rest w l){i:Nat}{t:TmC}(hi:l[i]? =some t):∀wz,Ext w wz→∀(j:Nat) (v:Value),(#[.int .i64 t.c,.bool t.b,.slice t.a1 t.n1 t.c1,.slice t.a2 t.n2 t.c2]:Array Value)[j]? =some v→wz.cell? ⟨g,i*4+j,none⟩=some v:=by
 intro wz hz j v hj
 have h2:(l.map tmv)[i]? =some (.agg #[.int .i64 t.c,.bool t.b,.slice t.a1 t.n1 t.c1,.slice t.a2 t.n2 t.c2]):=by rw[List.getElem?_map,hi];rfl
 exact hz.cell (HoldS.cell (by omega) h h2 j v hj)
theorem HoldT.swapped{g:Nat}{rest:List Value}{w:World}{P Q S:List TmC}{x y:TmC}{p q:Nat}(hp:p=P.length)(hq:q=P.length+1+Q.length)(h:HoldS 95 4 g rest w ((((P++x::(Q++y::S)).map tmv).set p (tmv y)).set q (tmv x))):HoldT g rest w (P++y::(Q++x::S)):=by
 unfold HoldT;rw[←List.map_set,←List.map_set,set_split hp hq]at h;exact h
theorem HoldT.swapped'{g:Nat}{rest:List Value}{w:World}{P Q S:List TmC}{x y:TmC}{p q:Nat}(hp:p=P.length)(hq:q=P.length+1+Q.length)(h:HoldS 95 4 g rest w ((((P++x::(Q++y::S)).map tmv).set q (tmv x)).set p (tmv y))):HoldT g rest w (P++y::(Q++x::S)):=by
 rw[List.set_comm _ _ (by omega)]at h;exact HoldT.swapped hp hq h
theorem get_at{P S:List TmC}{x:TmC}{p:Nat}(hp:p=P.length):(P++x::S)[p]? =some x:=by
 subst hp;rw[List.getElem?_append_right (Nat.le_refl _),Nat.sub_self,List.getElem?_cons_zero]
theorem get_at2{P Q S:List TmC}{x y:TmC}{q:Nat}(hq:q=P.length+1+Q.length):(P++x::(Q++y::S))[q]? =some y:=by
 subst hq;rw[List.getElem?_append_right (by omega),show P.length+1+Q.length - P.length=Q.length+1 by omega,List.getElem?_cons_succ,List.getElem?_append_right (Nat.le_refl _),Nat.sub_self,List.getElem?_cons_zero]
set_option maxHeartbeats 4000000 in
theorem swapRange_calls(fv:Value)(n cap g:Nat)(rest:List Value)(A X Q Y S:List TmC)(w:World)(a b m:Nat)(hn:n=(A++X++Q++Y++S).length)(hN:n≤35184372088832)(ha:a=A.length)(hb:b=a+X.length+Q.length)(hm:m=X.length)(hm2:m=Y.length)(hH:HoldT g rest w (A++X++Q++Y++S)):
  Calls Tryz.prog 222 #[.slice (some ⟨g,0,none⟩) n cap,.int .i64 (a:Int),.int .i64 (b:Int),.int .i64 (m:Int),fv] w fun e w'=>e= .returned (.tuple #[])∧Chg g w w'∧HoldT g rest w' (A++Y++Q++X++S):=by
 simp only[List.length_append]at hn
 have hab:a+m≤b:=by omega
 have hbn:b+m≤n:=by omega
 have Hl:=Lib.hid (And.intro hn (And.intro ha (And.intro hb (And.intro hm hm2))));have Hd:=Lib.hid hH;clear hn ha hb hm hm2 hH
 go_enter Tryz.func222,Tryz.ntmps222
 go_wp2_with fail
 go_loopw [10] (fun i wr=>∃(t:Nat) (X1 X2 Y1 Y2:List TmC),i= .int .i64 (t:Int)∧t≤m∧Hid (X=X1++X2∧Y=Y1++Y2∧X1.length=t∧Y1.length=t∧HoldT g rest wr (A++Y1++X2++Q++X1++Y2++S))∧Chg g w wr) (fun i _=>((m:Int) - intOf i).toNat)
 case atStart=>exact ⟨0,[],X,[],Y,rfl,by omega,Lib.hid ⟨rfl,rfl,rfl,rfl,by simpa using Hd.out⟩,Chg.refl _ _⟩
 case round=>
  obtain⟨t,X1,X2,Y1,Y2,rfl,ht,hH,hch⟩:=hrel
  rcases Nat.eq_or_lt_of_le ht with htm |htm
  ·subst htm
   have htt:¬(t:Int)<(t:Int):=by omega
   have HF:Hid (HoldT g rest wr (A++Y++Q++X++S)):=by
    obtain⟨h1,h2,h3,h4,h5⟩:=hH.out;obtain⟨-, -, -,k1,k2⟩:=Hl.out
    have e1:X2=[]:=List.eq_nil_of_length_eq_zero (by rw[h1,List.length_append]at k1;omega)
    have e2:Y2=[]:=List.eq_nil_of_length_eq_zero (by rw[h2,List.length_append]at k2;omega)
    subst e1 e2;rw[List.append_nil]at h1 h2;subst h1 h2;exact Lib.hid (by simpa using h5)
   go_wp2
   go_end0
   exact⟨rfl,hch,by simpa only[List.append_assoc]using HF.out⟩
  ·obtain⟨x,X3,y,Y3,hX,hY,h1,h2,h3,h4,P,R,T,hP,hR,hT,h5⟩:∃x X3 y Y3,X2=x::X3∧Y2=y::Y3∧X=X1++X2∧Y=Y1++Y2∧X1.length=t∧Y1.length=t∧∃P R T,P=A++Y1∧R=X3++Q++X1∧T=Y3++S∧HoldT g rest wr (P++x::(R++y::T)):=by
    obtain⟨h1,h2,h3,h4,h5⟩:=hH.out;obtain⟨-, -, -,k1,k2⟩:=Hl.out
    match X2,Y2,h1,h2,h5 with
    | [],_,h1,_,_=>rw [h1,List.append_nil]at k1;omega
    |_::_,[],_,h2,_=>rw [h2,List.append_nil]at k2;omega
    |x::X3,y::Y3,h1,h2,h5=>exact ⟨x,X3,y,Y3,rfl,rfl,h1,h2,h3,h4,_,_,_,rfl,rfl,rfl,by simpa[List.append_assoc]using h5⟩
   obtain⟨p,hp⟩:∃p,p=a+t:=⟨_,rfl⟩;obtain⟨q,hq⟩:∃q,q=b+t:=⟨_,rfl⟩
   have hlp:p=P.length:=by
    rw[hP,List.length_append]
    have:=Hl.out.2.1
    omega
   have hlq:q=P.length+1+R.length:=by
    obtain⟨-, -,k0,k1, -⟩:=Hl.out;rw[h1,hX,List.length_append,List.length_cons]at k0;rw[←hlp,hR,List.length_append,List.length_append]
    omega
   have hNN:((P++x::(R++y::T)).map tmv).length=n:=by
    have k:=Hl.out.1;rw[h1,h2,hX,hY]at k;rw[List.length_map,hP,hR,hT];simp only[List.length_append,List.length_cons]at k ⊢
    omega
   have HCi:=Lib.hid (h5.at (get_at hlp));have HCk:=Lib.hid (h5.at (get_at2 hlq));have H5:=Lib.hid h5;have HS:=Lib.hid (And.intro h1 (And.intro h2 (And.intro h3 (And.intro h4 (And.intro hX (And.intro hY (And.intro hP (And.intro hR (And.intro hT (And.intro hlp (And.intro hlq hNN)))))))))));clear h1 h2 h3 h4 hX hY hP hR hT h5 hH hlp hlq hNN
   have hpn:p<n:=by omega
   have hqn:q<n:=by omega
   have hpq:p≠q:=by omega
   have htm':(t:Int)<(m:Int):=by omega
   have hpi:(a:Int)+(t:Int)=(p:Int):=by omega
   have hqi:(b:Int)+(t:Int)=(q:Int):=by omega
   have hpn':(p:Int)<(n:Int):=by omega
   have hqn':(q:Int)<(n:Int):=by omega
   clear hp hq;go_wp2_with fail
   refine wp_region_swpS g n p q 21 23 rest ((P++x::(R++y::T)).map tmv) (.agg #[.int .i64 x.c,.bool x.b,.slice x.a1 x.n1 x.c1,.slice x.a2 x.n2 x.c2]) (.agg #[.int .i64 y.c,.bool y.b,.slice y.a1 y.n1 y.c1,.slice y.a2 y.n2 y.c2]) [PP.val (.slice (some ⟨g,0,none⟩) n cap),PP.val (.int .i64 (a:Int)),PP.val (.int .i64 (t:Int)),PP.val (.int .i64 (p:Int)),PP.val (.slice (some ⟨g,0,none⟩) n cap),PP.val (.int .i64 (b:Int)),PP.val (.int .i64 (t:Int)),PP.val (.int .i64 (q:Int)),PP.val (.slice (some ⟨g,0,none⟩) n cap),PP.val (.int .i64 (b:Int)),PP.val (.int .i64 (t:Int)),PP.val (.int .i64 (q:Int)),PP.val (.pointer (some ⟨g,q*4,none⟩)),PP.val (.agg #[.int .i64 y.c,.bool y.b,.slice y.a1 y.n1 y.c1,.slice y.a2 y.n2 y.c2]),PP.val (.slice (some ⟨g,0,none⟩) n cap),PP.val (.int .i64 (a:Int)),PP.val (.int .i64 (t:Int)),PP.val (.int .i64 (p:Int)),PP.val (.pointer (some ⟨g,p*4,none⟩)),PP.val (.agg #[.int .i64 x.c,.bool x.b,.slice x.a1 x.n1 x.c1,.slice x.a2 x.n2 x.c2]),PP.val (.pointer (some ⟨g,p*4,none⟩)),PP.any,PP.val (.pointer (some ⟨g,q*4,none⟩)),PP.any] [] [21,20,19,18,17,16,15,14,13,12,11,10,9,8,3,2,1,0] (by kernel_rfl) (by kernel_rfl) (fun f=>(by simp only[fillR,fillL,List.setIfInBounds_toArray,List.set_cons_succ,List.set_cons_zero,Nat.reduceAdd];rfl)) hpq (by decide) HS.out.2.2.2.2.2.2.2.2.2.2.2 H5.out hpn hqn (by intro p hp;simp only[List.mem_cons,List.not_mem_nil,or_false]at hp;rcases hp with rfl |rfl |rfl |rfl |rfl |rfl |rfl |rfl |rfl |rfl |rfl |rfl |rfl |rfl |rfl |rfl |rfl |rfl |rfl |rfl |rfl |rfl |rfl |rfl<;>rfl) ?_ ?_ (by decide) (by decide)
   ·refine⟨?_,?_,?_,?_,?_,?_,?_,?_,?_,?_,?_,?_,?_,?_,?_,?_,?_,?_,?_,?_,?_,?_,?_,?_,trivial⟩
    ·intro f w2 hG hp hl;simp only[OpGoal];go_simp;exact⟨_,rfl,Ext.refl _,rfl⟩
    ·intro f w2 hG hp hl;simp only[OpGoal];go_simp;exact⟨_,rfl,Ext.refl _,rfl⟩
    ·intro f w2 hG hp hl;simp only[OpGoal];go_simp;exact⟨_,rfl,Ext.refl _,rfl⟩
    ·intro f w2 hG hp hl;have hE:Ext wr w2:=hG;have hS:=hE.size
     have q17:f 1= .int .i64 (a:Int):=tellM hp 0 1 rfl rfl
     have q18:f 2= .int .i64 (t:Int):=tellM hp 1 2 rfl rfl
     simp only[OpGoal];go_simp
     first
     |exact ⟨_,rfl,Ext.refl _,rfl⟩
     |exact ⟨_,rfl,Ext.refl _,congrArg (Value.int .i64) (Go.IntWalk.i64_in _ ⟨by omega,by omega⟩)⟩
    ·intro f w2 hG hp hl;have hS:wr.heap.size≤w2.heap.size:=hG.2.2.2.1;simp only[OpGoal];go_simp;exact⟨_,rfl,Ext.refl _,rfl⟩
    ·intro f w2 hG hp hl;have hS:wr.heap.size≤w2.heap.size:=hG.2.2.2.1;simp only[OpGoal];go_simp;exact⟨_,rfl,Ext.refl _,rfl⟩
    ·intro f w2 hG hp hl;have hS:wr.heap.size≤w2.heap.size:=hG.2.2.2.1;simp only[OpGoal];go_simp;exact⟨_,rfl,Ext.refl _,rfl⟩
    ·intro f w2 hG hp hl;have hS:wr.heap.size≤w2.heap.size:=hG.2.2.2.1
     have q21:f 5= .int .i64 (b:Int):=tellM hp 0 5 rfl rfl
     have q22:f 6= .int .i64 (t:Int):=tellM hp 1 6 rfl rfl
     simp only[OpGoal];go_simp
     first
     |exact ⟨_,rfl,Ext.refl _,rfl⟩
     |exact ⟨_,rfl,Ext.refl _,congrArg (Value.int .i64) (Go.IntWalk.i64_in _ ⟨by omega,by omega⟩)⟩
    ·intro f w2 hG hp hl;simp only[OpGoal];go_simp;exact⟨_,rfl,Ext.refl _,rfl⟩
    ·intro f w2 hG hp hl;simp only[OpGoal];go_simp;exact⟨_,rfl,Ext.refl _,rfl⟩
    ·intro f w2 hG hp hl;simp only[OpGoal];go_simp;exact⟨_,rfl,Ext.refl _,rfl⟩
    ·intro f w2 hG hp hl;have hE:Ext wr w2:=hG;have hS:=hE.size
     have q25:f 9= .int .i64 (b:Int):=tellM hp 0 9 rfl rfl
     have q26:f 10= .int .i64 (t:Int):=tellM hp 1 10 rfl rfl
     simp only[OpGoal];go_simp
     first
     |exact ⟨_,rfl,Ext.refl _,rfl⟩
     |exact ⟨_,rfl,Ext.refl _,congrArg (Value.int .i64) (Go.IntWalk.i64_in _ ⟨by omega,by omega⟩)⟩
    ·intro f w2 hG hp hl
     have q24:f 8= .slice (some ⟨g,0,none⟩) n cap:=tellM hp 0 8 rfl rfl
     have q27:f 11= .int .i64 (q:Int):=tellM hp 1 11 rfl rfl
     simp only[OpGoal];go_simp;exact⟨_,rfl,Ext.refl _,rfl⟩
    ·intro f w2 hG hp hl;have hE:Ext wr w2:=hG
     have q28:f 12= .pointer (some ⟨g,q*4,none⟩):=tellM hp 0 12 rfl rfl
     change OpGoal _ _ _ f w2 Ext _;exact og_loadAt (P:=Tryz.prog) _ _ g (q*4) _ _ rfl rfl q28 (fun j v h=>HCk.out _ hE j v h) Tryz.underlying95 rfl (by kernel_rfl) rfl
    ·intro f w2 hG hp hl;simp only[OpGoal];go_simp;exact⟨_,rfl,Ext.refl _,rfl⟩
    ·intro f w2 hG hp hl;simp only[OpGoal];go_simp;exact⟨_,rfl,Ext.refl _,rfl⟩
    ·intro f w2 hG hp hl;simp only[OpGoal];go_simp;exact⟨_,rfl,Ext.refl _,rfl⟩
    ·intro f w2 hG hp hl;have hE:Ext wr w2:=hG;have hS:=hE.size
     have q31:f 15= .int .i64 (a:Int):=tellM hp 0 15 rfl rfl
     have q32:f 16= .int .i64 (t:Int):=tellM hp 1 16 rfl rfl
     simp only[OpGoal];go_simp
     first
     |exact ⟨_,rfl,Ext.refl _,rfl⟩
     |exact ⟨_,rfl,Ext.refl _,congrArg (Value.int .i64) (Go.IntWalk.i64_in _ ⟨by omega,by omega⟩)⟩
    ·intro f w2 hG hp hl
     have q30:f 14= .slice (some ⟨g,0,none⟩) n cap:=tellM hp 0 14 rfl rfl
     have q33:f 17= .int .i64 (p:Int):=tellM hp 1 17 rfl rfl
     simp only[OpGoal];go_simp;exact⟨_,rfl,Ext.refl _,rfl⟩
    ·intro f w2 hG hp hl;have hE:Ext wr w2:=hG
     have q34:f 18= .pointer (some ⟨g,p*4,none⟩):=tellM hp 0 18 rfl rfl
     change OpGoal _ _ _ f w2 Ext _;exact og_loadAt (P:=Tryz.prog) _ _ g (p*4) _ _ rfl rfl q34 (fun j v h=>HCi.out _ hE j v h) Tryz.underlying95 rfl (by kernel_rfl) rfl
    ·intro f w2 hG hp hl
     have q16:f 0= .slice (some ⟨g,0,none⟩) n cap:=tellM hp 0 0 rfl rfl
     have q19:f 3= .int .i64 (p:Int):=tellM hp 1 3 rfl rfl
     simp only[OpGoal];go_simp;exact⟨_,rfl,Ext.refl _,rfl⟩
    ·intro f w2 hG hp hl
     have q36:f 20= .pointer (some ⟨g,p*4,none⟩):=tellM hp 0 20 rfl rfl
     have q29:f 13= .agg #[.int .i64 y.c,.bool y.b,.slice y.a1 y.n1 y.c1,.slice y.a2 y.n2 y.c2]:=tellM hp 1 13 rfl rfl
     intro hI hU;exact og_stS (P:=Tryz.prog) g n _ _ 21 p _ _ _ _ _ _ rfl rfl q36 q29 hpn (by kernel_rfl) (strN_tmv1 y) hI
    ·intro f w2 hG hp hl;have hS:wr.heap.size≤w2.heap.size:=hG.2.2.2.1
     have q20:f 4= .slice (some ⟨g,0,none⟩) n cap:=tellM hp 0 4 rfl rfl
     have q23:f 7= .int .i64 (q:Int):=tellM hp 1 7 rfl rfl
     simp only[OpGoal];go_simp;exact⟨_,rfl,Ext.refl _,rfl⟩
    ·intro f w2 hG hp hl;have hS:wr.heap.size≤w2.heap.size:=hG.2.2.2.1
     have q37:f 22= .pointer (some ⟨g,q*4,none⟩):=tellM hp 0 22 rfl rfl
     have q35:f 19= .agg #[.int .i64 x.c,.bool x.b,.slice x.a1 x.n1 x.c1,.slice x.a2 x.n2 x.c2]:=tellM hp 1 19 rfl rfl
     intro hI hU;exact og_stS (P:=Tryz.prog) g n _ _ 23 q _ _ _ _ _ _ rfl rfl q37 q35 hqn (by kernel_rfl) (strN_tmv1 x) hI
   ·intro f w2 hC hW hp;clear hp
    have HF:Hid (HoldT g rest w2 (P++y::(R++x::T))):=by
     obtain⟨-, -, -, -, -, -, -, -, -,hlp,hlq, -⟩:=HS.out;exact HoldT.swapped hlp hlq hW
    clear hW;go_wp2;go_roundw
    case rel=>
     refine⟨t+1,X1++ [x],X3,Y1++ [y],Y3,congrArg (Value.int .i64) (by omega),by omega,Lib.hid ?_,hch.trans hC⟩;obtain⟨h1,h2,h3,h4,hX,hY,hP,hR,hT, -⟩:=HS.out;have h5:=HF.out;rw[hP,hR,hT]at h5;exact⟨by rw[h1,hX];simp,by rw[h2,hY];simp,by simp[h3],by simp[h4],by simpa[List.append_assoc]using h5⟩
    case measure=>simp [intOf];omega
set_option maxHeartbeats 4000000 in
theorem rotate_calls(fv:Value)(n cap g:Nat)(rest:List Value)(A U V S:List TmC)(w:World)(a m b:Nat)(hn:n=(A++U++V++S).length)(hN:n≤35184372088832)(ha:a=A.length)(hm:m=a+U.length)(hb:b=m+V.length)(hU:0<U.length)(hV:0<V.length)(hH:HoldT g rest w (A++U++V++S)):
  Calls Tryz.prog 220 #[.slice (some ⟨g,0,none⟩) n cap,.int .i64 (a:Int),.int .i64 (m:Int),.int .i64 (b:Int),fv] w fun e w'=>e= .returned (.tuple #[])∧Chg g w w'∧HoldT g rest w' (A++V++U++S):=by
 simp only[List.length_append]at hn;obtain⟨i0,hi0⟩:∃i0,i0=U.length:=⟨_,rfl⟩;obtain⟨j0,hj0⟩:∃j0,j0=V.length:=⟨_,rfl⟩
 have hi0':(m:Int) - (a:Int)=(i0:Int):=by omega
 have hj0':(b:Int) - (m:Int)=(j0:Int):=by omega
 have hmn:m≤n:=by omega
 have hbn:b≤n:=by omega
 have han:a≤n:=by omega
 have Hl:=Lib.hid (And.intro hn (And.intro ha (And.intro hm (And.intro hb (And.intro hi0 (And.intro hj0 (And.intro hU hV)))))));have Hd:=Lib.hid hH;clear hn ha hm hb hi0 hj0 hU hV hH
 go_enter Tryz.func220,Tryz.ntmps220
 go_wp2_with fail
 go_loopw [10,11] (fun s10 s11 wr=>∃(i j:Nat) (A' U' V' S':List TmC),s10= .int .i64 (i:Int)∧s11= .int .i64 (j:Int)∧0<i∧0<j∧i≤m∧m+j≤n∧Hid (i=U'.length∧j=V'.length∧m=A'.length+i∧n=A'.length+i+j+S'.length∧A'++V'++U'++S'=A++V++U++S∧HoldT g rest wr (A'++U'++V'++S'))∧Chg g w wr) (fun s10 s11 _=>(intOf s10+intOf s11).toNat)
 case atStart=>
  obtain⟨hn,ha,hm,hb,hi0,hj0,hU,hV⟩:=Hl.out;exact⟨i0,j0,A,U,V,S,rfl,rfl,by omega,by omega,by omega,by omega,Lib.hid ⟨hi0,hj0,by omega,by omega,rfl,Hd.out⟩,Chg.refl _ _⟩
 case round=>
  obtain⟨i,j,A',U',V',S',rfl,rfl,hi,hj,him,hjn,hH,hch⟩:=hrel;obtain⟨p,hp⟩:∃p:Nat,p+i=m:=⟨m - i,by omega⟩
  have hpi:(m:Int) - (i:Int)=(p:Int):=by omega
  rcases Nat.lt_trichotomy i j with hij |hij |hij
  ·obtain⟨q,hq⟩:∃q:Nat,q+i=m+j:=⟨m+j - i,by omega⟩
   have hqi:(m:Int)+(j:Int) - (i:Int)=(q:Int):=by omega
   have hne:¬(i:Int)=(j:Int):=by omega
   have hgt:¬(j:Int)<(i:Int):=by omega
   have hji:(j:Int) - (i:Int)=((j - i:Nat):Int):=by omega
   have HV:Hid (∃V1 V2,V'=V1++V2∧V2.length=i∧V1.length=j - i):=by
    obtain⟨h1,h2, -⟩:=hH.out;exact⟨V'.take (j - i),V'.drop (j - i),(List.take_append_drop _ _).symm,by rw[List.length_drop];omega,by rw[List.length_take];omega⟩
   obtain⟨V1,V2,hVV,hV2,hV1⟩:=HV.out;have HS:=Lib.hid (And.intro hVV (And.intro hV1 hV2));clear hVV hV1 hV2 HV;go_wp2_with fail
   refine(swapRange_calls fv n cap g rest A' U' V1 V2 S' wr p q i (by
    obtain⟨h1,h2,h3,h4, -⟩:=hH.out;obtain⟨k1,k2,k3⟩:=HS.out;simp only[List.length_append]
    omega) hN (by have:=hH.out.2.2.1;omega) (by
    obtain⟨h1,h2,h3,h4, -⟩:=hH.out;obtain⟨k1,k2,k3⟩:=HS.out
    omega) hH.out.1 HS.out.2.2.symm (by
    have:=hH.out.2.2.2.2.2
    rw[HS.out.1]at this
    simpa[List.append_assoc]using this)).mono ?_
   rintro e w2 ⟨rfl,hc2,hH2⟩;have HH2:=Lib.hid hH2;clear hH2;go_wp2_with fail;go_roundw
   case rel=>
    obtain⟨h1,h2,h3,h4,h5, -⟩:=hH.out;obtain⟨k1,k2,k3⟩:=HS.out;refine⟨i,j - i,A',V2,V1,U'++S',rfl,rfl,hi,by omega,him,by omega,Lib.hid ⟨k3.symm,k2.symm,h3,by rw[List.length_append];omega,?_,by simpa[List.append_assoc]using HH2.out⟩,hch.trans hc2⟩;rw[←h5,k1]
    simp[List.append_assoc]
   case measure=>simp [intOf];omega
  ·subst hij;go_wp2_with fail
   refine(swapRange_calls fv n cap g rest A' U' [] V' S' wr p m i (by
    obtain⟨h1,h2,h3,h4, -⟩:=hH.out;simp only[List.length_append,List.length_nil]
    omega) hN (by have:=hH.out.2.2.1;omega) (by
    obtain⟨h1,h2,h3,h4, -⟩:=hH.out;simp only[List.length_nil]
    omega) hH.out.1 hH.out.2.1 (by simpa using hH.out.2.2.2.2.2)).mono ?_
   rintro e w2 ⟨rfl,hc2,hH2⟩;rw[List.append_nil,hH.out.2.2.2.2.1]at hH2;have HH2:=Lib.hid hH2;clear hH2;go_wp2
   go_end0
   exact⟨rfl,hch.trans hc2,by simpa only[List.append_assoc]using HH2.out⟩
  ·have hne:¬(i:Int)=(j:Int):=by omega
   have hgt:(j:Int)<(i:Int):=by omega
   have hji:(i:Int) - (j:Int)=((i - j:Nat):Int):=by omega
   have HV:Hid (∃U1 U2,U'=U1++U2∧U1.length=j∧U2.length=i - j):=by
    obtain⟨h1,h2, -⟩:=hH.out;exact⟨U'.take j,U'.drop j,(List.take_append_drop _ _).symm,by rw[List.length_take];omega,by rw[List.length_drop];omega⟩
   obtain⟨U1,U2,hVV,hV1,hV2⟩:=HV.out;have HS:=Lib.hid (And.intro hVV (And.intro hV1 hV2));clear hVV hV1 hV2 HV;go_wp2_with fail
   refine(swapRange_calls fv n cap g rest A' U1 U2 V' S' wr p m j (by
    obtain⟨h1,h2,h3,h4, -⟩:=hH.out;obtain⟨k1,k2,k3⟩:=HS.out;simp only[List.length_append]
    omega) hN (by have:=hH.out.2.2.1;omega) (by
    obtain⟨h1,h2,h3,h4, -⟩:=hH.out;obtain⟨k1,k2,k3⟩:=HS.out
    omega) HS.out.2.1.symm hH.out.2.1 (by
    have:=hH.out.2.2.2.2.2
    rw[HS.out.1]at this
    simpa[List.append_assoc]using this)).mono ?_
   rintro e w2 ⟨rfl,hc2,hH2⟩;have HH2:=Lib.hid hH2;clear hH2;go_wp2_with fail;go_roundw
   case rel=>
    obtain⟨h1,h2,h3,h4,h5, -⟩:=hH.out;obtain⟨k1,k2,k3⟩:=HS.out;refine⟨i - j,j,A'++V',U2,U1,S',rfl,rfl,by omega,hj,by omega,hjn,Lib.hid ⟨k3.symm,k2.symm,by rw[List.length_append];omega,by rw[List.length_append];omega,?_,by simpa[List.append_assoc]using HH2.out⟩,hch.trans hc2⟩;rw[←h5,k1]
    simp[List.append_assoc]
   case measure=>simp [intOf];omega
end Go.Proofs.YtbmnlaepfckmkaaGreat
