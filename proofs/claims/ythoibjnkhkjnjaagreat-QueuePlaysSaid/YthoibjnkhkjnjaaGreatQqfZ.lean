/-
 A node put behind a list.
-/
import Derived.Test.YthoibjnkhkjnjaaGreatQqaZ
import Derived.ScopeJumps
namespace Go.Proofs.YthoibjnkhkjnjaaGreat
set_option maxRecDepth 100000
set_option maxHeartbeats 1000000
open Go.RowKit
set_option linter.unusedVariables false
set_option linter.unusedSimpArgs false
def QHeap(B k:Nat)(w:World)(hv:Value)(d:Array Nd):Prop:=∃vs:List Value,vs.length=d.size∧Five vs∧w.ownsRow B 38 5 hv d.size (flat vs)∧∀(i:Nat) (v:Value),vs[i]? =some v→NdV B k w v d[i]!
theorem FrL.chgB{e:TypeId}{k:IntKind}{B0:Nat}{w w':World}{v:Value}{xs:List Nat}{bs:List Nat}(h:FrL e k B0 w v xs)(hc:ChgS bs w w')(hb:∀g∈bs,∃t cs,Bx t w g cs∧t≠e):FrL e k B0 w' v xs:=by
 obtain⟨ad,cap,h1,h2,h3,h4⟩:=h;refine⟨ad,cap,h1,h2,h3,?_⟩
 rcases h4 with h4 |⟨g,cur,h4,h5,h6,h7⟩
 ·exact .inl h4
 ·refine .inr ⟨g,cur,h4,h5,hc.blk h6 fun hm=> ?_,h7⟩;obtain⟨t,cs,hbx,hne⟩:=hb g hm;unfold Bx at hbx;rw[h6]at hbx;simp only[Option.some.injEq,Obj.cells.injEq]at hbx;exact hne hbx.2.1.symm
theorem NdV.chgB{B k:Nat}{w w':World}{v:Value}{x:Nd}{bs:List Nat}(h:NdV B k w v x)(hc:ChgS bs w w')(hb:∀g∈bs,∃t cs,Bx t w g cs∧t≠61):NdV B k w' v x:=by
 obtain⟨b,a1,n1,c1,a2,n2,c2,h1,⟨s,t,hst,hs,ht⟩,h3⟩:=h;exact⟨b,a1,n1,c1,a2,n2,c2,h1,⟨s,t,hst,FrL.chgB hs hc hb,FrL.chgB ht hc hb⟩,h3⟩
theorem ownsRow_ext{B e size n:Nat}{w w':World}{v:Value}{xs:List Value}(h:w.ownsRow B e size v n xs)(he:Ext w w'):w'.ownsRow B e size v n xs:=by
 refine⟨h.1,?_⟩
 rcases h.2 with h2 |⟨g,cap,cur,h1,h2,h3,h4⟩
 ·exact .inl h2
 ·exact .inr ⟨g,cap,cur,h1,h2,he.blk h3,h4⟩
theorem ownsRow_chg{B e size n p:Nat}{w w':World}{v:Value}{xs:List Value}{t:TypeId}{cs:Array Value}(h:w.ownsRow B e size v n xs)(he:Chg p w w')(hp:Bx t w p cs)(ht:t≠e):w'.ownsRow B e size v n xs:=by
 refine⟨h.1,?_⟩
 rcases h.2 with h2 |⟨g,cap,cur,h1,h2,h3,h4⟩
 ·exact .inl h2
 ·refine .inr ⟨g,cap,cur,h1,h2,he.blk h3 ?_,h4⟩;rintro rfl;unfold Bx at hp;rw[h3]at hp;simp only[Option.some.injEq,Obj.cells.injEq]at hp;exact ht hp.2.1.symm
theorem ownsRow_len{B e size n:Nat}{w:World}{v:Value}{xs:List Value}(h:w.ownsRow B e size v n xs):∃ad cap,v= .slice ad n cap:=by
 rcases h.2 with⟨h1,h2⟩ |⟨g,cap,cur,h1, -⟩
 ·exact⟨none,0,by rw[h1,h2]⟩
 ·exact⟨_,cap,h1⟩
def stA(S gA p:Nat)(ord hv:Value)(B n:Nat)(xs:List Value)(s:Nat):Sm:=
 ⟨s,gA,fun a _=>Bx 58 a p #[ord,hv],fun w b=>b.heap[gA]? =w.heap[gA]?,fun v b=>b.ownsRow B 38 5 v (n+1) xs∧∀g,v.ownBlock=some g→hv.ownBlock=some g∨S≤g⟩
def stQ(S p:Nat)(ord hv:Value)(B n:Nat)(xs:List Value)(s:Nat):Sm:=
 ⟨s,p,fun a b=>∃c,Bx 58 a p c,fun w b=>b.heap[p]? =w.heap[p]?,fun _ b=>∃v,Bx 58 b p #[ord,v]∧b.ownsRow B 38 5 v (n+1) xs∧∀g,v.ownBlock=some g→hv.ownBlock=some g∨S≤g⟩
theorem append_where{P:Program}(w:World)(base:Nat)(t ty e:TypeId)(i:TypeInfo)(z:Value)(size bytes:Nat)(ht:P.underlying t=some (.slice e))(hi:P.info? e=some i)(hz:i.zero=some z)
  (hsize:i.size=size) (hby:i.bytes=bytes) (v:Value) (n:Nat) (xs:List Value) (hown:w.ownsRow base e size v n xs)
  (a:Addr) (m c:Nat) (news:List Value) (hl:news.length=m*size) (hnews:∀j u,news[j]? =some u→w.cell? (a.add j)=some u) (h1:∀u∈news,u.oneCell'=true)
  (hm:0<m) (h63:n+m≤maxLen) (hbytes:(n+m)*bytes≤140737488355328) (v':Value) (w':World) (hrun:(Builtin.append_ #[t,t] ty #[v,.slice (some a) m c]).run P w= .ok v' w'):
  ∀g,v'.ownBlock=some g→v.ownBlock=some g∨w.heap.size≤g:=by
 subst hsize hby
 have hsmall:n+m≤9223372036854775807:=by simp only[maxLen]at h63;omega
 intro g0 hg0
 rcases hown.2 with⟨rfl,rfl⟩ |⟨g,cap,cur,rfl,hbg,hg,hnc,hcm,hcs,htake⟩
 ·have hr:=run_append_nil (P:=P) w t ty e i z ht hi hz a m c news hl hnews (by omega) (by omega) (by have hb:=hbytes;simp only[Nat.zero_add]at hb;omega);rw[hr]at hrun
  cases hrun
  simp only[Value.ownBlock,Option.some.injEq]at hg0;exact .inr (by omega)
 ·by_cases hroom:n+m≤cap
  ·have hfit:n*i.size+news.length≤cur.size:=by rw[hl,hcs,←Nat.add_mul];exact Nat.mul_le_mul_right _ hroom
   have hr:=run_append_room (P:=P) w t ty e i ht hi g n cap cur hg a m c news hl hnews h1 hroom hfit;rw[hr]at hrun
   cases hrun
   exact .inl hg0
  ·have holds:∀j u,xs[j]? =some u→w.cell? ((⟨g,0,none⟩:Addr).add j)=some u:=hown.cells (g:=g) rfl
   have hr:=run_append_grow (P:=P) w t ty e i z ht hi hz ⟨g,0,none⟩ n cap xs hown.1 holds a m c news hl hnews (by omega) (by omega) (growslice_fits (by omega) hbytes);rw[hr]at hrun
   cases hrun
   simp only[Value.ownBlock,Option.some.injEq]at hg0;exact .inr (by omega)
theorem og_append{P:Program}{o:Oper}{a:Act}{f:Nat→Value}{w:World}{R:World→World→Prop}{post:Value→World→Prop}(s x:Operand)(t:TypeId)(hgd:o.guard=none)(ho:o.op= .call {callee:= .builtin .append,args:=#[s,x],argTypes:=#[t,t]})
  (base:Nat) (e:TypeId) (size bytes:Nat) (ht:P.underlying t=some (.slice e)) (hi:(P.info? e).map (fun i=>(i.size,i.bytes))=some (size,bytes)) (hz:((P.info? e).bind (·.zero)).map (·.cells.size)=some size) (hsz:0<size)
  (v:Value) (n:Nat) (xs:List Value) (hs:a.eval s=v) (hown:w.ownsRow base e size v n xs)
  (ad:Addr) (m c:Nat) (news:List Value) (hx:a.eval x= .slice (some ad) m c) (hl:news.length=m*size) (hnews:∀j u,news[j]? =some u→w.cell? (ad.add j)=some u) (h1:∀u∈news,u.oneCell'=true)
  (hm:0<m) (h63:n+m≤maxLen) (hbytes:(n+m)*bytes≤140737488355328) (hbase:base≤w.heap.size)
  (h:∀v' w',w'.ownsRow base e size v' (n+m) (xs++news)→w.grownBy w' v.ownBlock→(∀g,v'.ownBlock=some g→v.ownBlock=some g∨w.heap.size≤g)→R w w'∧post v' w'):OpGoal P o a f w R post:=by
 unfold OpGoal;rw[hgd]
 cases hie:P.info? e with
 |none=>simp [hie]at hi
 |some i=>
  simp only[hie,Option.map_some,Option.some.injEq,Prod.mk.injEq,Option.bind_some]at hi hz
  cases hiz:i.zero with
  |none=>rw [hiz]at hz;cases hz
  |some z=>
   rw[hiz]at hz;obtain⟨v',w',hr,h2,h3, -⟩:=run_append_own (P:=P) w base t o.type e i z size bytes ht hie hiz hi.1 hi.2 (by simpa using hz) hsz v n xs hown ad m c news hl hnews h1 h63 hbytes hbase;have h4:=append_where w base t o.type e i z size bytes ht hie hiz hi.1 hi.2 v n xs hown ad m c news hl hnews h1 hm h63 hbytes v' w' hr;unfold Oper.wp
   simp[execOp,ho,resolve,invoke,builtin,hs,hx,hr,Result.andThen]
   exact⟨v',rfl,h v' w' h2 h3 h4⟩
theorem wp_region_app{P:Program}{id:Nat}{l:List Oper}{Q:Exit→Act→World→Prop}{tmps:Array Value}{df:List Deferred}{w:World}{fr:(Nat→Value)→Array Value}
  (S gA p B n s1 s2:Nat) (ord hv:Value) (xs:List Value) (L:List (PP w.heap.size)) (lates:List (Nat×Nat×Nat)) (pre:List Nat)
  (hm:P.follows .mixedOrders=true) (hok:(regOk l.toArray tmps.size&&lateOk l.toArray lates&&([stA S gA p ord hv B n xs s1,stQ S p ord hv B n xs s2].map (·.s)).all fun s=>ancOk l.toArray [s] (pre.filter (· !=s)))=true)
  (hfr:∀f,fillR l.toArray tmps f=fr f)
  (hss:s1≠s2) (hpa:gA≠p) (hA:gA<w.heap.size) (hp:Bx 58 w p #[ord,hv]) (hvn:∃ad cap,hv= .slice ad n cap) (hL:∀p∈L,p.c=false)
  (hstep:OwesM P fr df w [stA S gA p ord hv B n xs s1,stQ S p ord hv B n xs s2] (fun _=>True) L lates tmps pre l 0)
  (hend:∀f w1,ChgS [gA,p] w w1→(∃v,Bx 58 w1 p #[ord,v]∧w1.ownsRow B 38 5 v (n+1) xs∧∀g,v.ownBlock=some g→hv.ownBlock=some g∨S≤g)→AllPosts (postM [stA S gA p ord hv B n xs s1,stQ S p ord hv B n xs s2] L) f w1 l.length 0→Q .normal ⟨fr f,df⟩ w1)
  (hs2:s2<l.length):
  (Code.region id l.toArray true).wp P Q ⟨tmps,df⟩ w:=by
 have hlt:=blk_lt hp
 have hmem:∀x∈ [stA S gA p ord hv B n xs s1,stQ S p ord hv B n xs s2],x=stA S gA p ord hv B n xs s1∨x=stQ S p ord hv B n xs s2:=fun x hx=>by simpa using hx
 have hat1:smAt [stA S gA p ord hv B n xs s1,stQ S p ord hv B n xs s2] s1=some (stA S gA p ord hv B n xs s1):=by simp[smAt,stA]
 have hat2:smAt [stA S gA p ord hv B n xs s1,stQ S p ord hv B n xs s2] s2=some (stQ S p ord hv B n xs s2):=by simp[smAt,stA,stQ,Ne.symm hss]
 refine wp_region_mut [stA S gA p ord hv B n xs s1,stQ S p ord hv B n xs s2] (fun _=>True) L lates pre hm hok hfr ?_ ?_ hL trivial (fun _ _ _ _=>trivial) (fun _ _ _ _ _ _ _=>trivial) ?_ ?_ ?_ ?_ ?_ ?_ hstep ?_
 ·intro x hx
  rcases hmem x hx with rfl |rfl
  ·exact hA
  ·exact hlt
 ·intro x hx
  rcases hmem x hx with rfl |rfl
  ·exact hat1
  ·exact hat2
 ·intro x hx v w1 w2 he hF
  rcases hmem x hx with rfl |rfl
  ·exact⟨ownsRow_ext hF.1 he,hF.2⟩
  ·obtain⟨u,h1,h2,h3⟩:=hF;exact⟨u,h1.ext he,ownsRow_ext h2 he,h3⟩
 ·intro x hx y hy hne v w1 w2 hch hR hF
  rcases hmem x hx with rfl |rfl<;>rcases hmem y hy with rfl |rfl
  ·exact absurd rfl hne
  ·obtain⟨c,hc⟩:=hR;exact⟨ownsRow_chg hF.1 hch hc (by decide),hF.2⟩
  ·obtain⟨u,h1,h2, -⟩:=hF;have h3:Bx 58 w1 p #[ord,hv]:=hR;unfold Bx at h1 h3;rw[h1]at h3;simp only[Option.some.injEq,Obj.cells.injEq,and_true]at h3
   have h4:u=hv:=by
    have:=congrArg Array.toList h3
    simp at this
    exact this
   subst h4;obtain⟨a2,c2,h5⟩:=ownsRow_len h2;obtain⟨a3,c3,h6⟩:=hvn;rw[h6]at h5
   simp at h5
  ·exact absurd rfl hne
 ·intro x hx
  rcases hmem x hx with rfl |rfl<;>rfl
 ·intro x hx w1 w2 hs he hU
  rcases hmem x hx with rfl |rfl
  ·exact(he.heap (Nat.lt_of_lt_of_le hA hs)).trans hU
  ·exact(he.heap (Nat.lt_of_lt_of_le hlt hs)).trans hU
 ·intro x hx y hy hne w1 w2 hs hch hR hU
  rcases hmem x hx with rfl |rfl<;>rcases hmem y hy with rfl |rfl
  ·exact absurd rfl hne
  ·exact(hch.heap (Nat.lt_of_lt_of_le hA hs) hpa).trans hU
  ·exact(hch.heap (Nat.lt_of_lt_of_le hlt hs) (Ne.symm hpa)).trans hU
  ·exact absurd rfl hne
 ·intro w1 hG _ hU
  have h1:w1.heap[gA]? =w.heap[gA]? :=hU (stA S gA p ord hv B n xs s1) (by simp)
  have h2:w1.heap[p]? =w.heap[p]? :=hU (stQ S p ord hv B n xs s2) (by simp)
  refine⟨hG.1,hG.2.1,hG.2.2.1,hG.2.2.2.1,fun j hj _=> ?_⟩
  by_cases hjg:j=gA
  ·rw[hjg];exact h1
  ·by_cases hjp:j=p
   ·rw[hjp];exact h2
   ·exact hG.2.2.2.2 j hj (by simp[stA,stQ];exact⟨hjg,hjp⟩)
 ·intro f w1 hG _ hp';have hF:=endMS hp' s2 hs2 hat2;exact hend f w1 hG hF hp'
theorem Code.wp_weak{P:Program}{c:Code}{a:Act}{w:World}{Q Q':Exit→Act→World→Prop}(h:c.wp P Q a w)(hQ:∀e a w,Q e a w→Q' e a w):c.wp P Q' a w:=by
 intro b k cs;obtain⟨e,a1,w1,hq,harr⟩:=h b k cs;exact⟨e,a1,w1,hQ _ _ _ hq,harr⟩
theorem wp_scope_label{P:Program}{a:Act}{w:World}{Q:Exit→Act→World→Prop}{c rest:Code}(l:Nat)(J:Act→World→Prop)(μ:Act→World→Nat)(hf:findLabel c l=some (Code.skip.seq rest))
  (pass:∀a w,J a w→rest.wp P (Exit.jump l (fun a' w'=>J a' w'∧μ a' w'<μ a w) Q) a w)
  (first:(∀a w,J a w→rest.wp P (Exit.jump l J Q) a w)→c.wp P (Exit.jump l J Q) a w):(Code.scope c).wp P Q a w:=
 wp_scope_jumps l J μ hf (first fun a w hJ=>Code.wp_weak (pass a w hJ) (fun e a' w' h=>by
  cases e with
  |goto l'=>exact ⟨h.1,h.2.1⟩
  |_=>exact h)) fun a w hJ=>wp_seq (wp_skip (pass a w hJ))
theorem ChgS.stepC{bs:List Nat}{w w1 w2:World}{g:Nat}(h:ChgS bs w w1)(hc:Chg g w1 w2)(hg:g∈bs∨w.heap.size≤g):ChgS bs w w2:=
 ⟨(World.grownBy.os hc).trans h.1,(World.grownBy.tape hc).trans h.2.1,(World.grownBy.output hc).trans h.2.2.1,Nat.le_trans h.2.2.2.1 hc.size,fun k hk hn=>(hc.heap (Nat.lt_of_lt_of_le hk h.2.2.2.1) (fun e=>by subst e;rcases hg with hg |hg;exact hn hg;omega)).trans (h.2.2.2.2 k hk hn)⟩
theorem ChgS.more{bs cs:List Nat}{w w1 w2:World}(h:ChgS bs w w1)(k:ChgS cs w1 w2)(hb:∀g∈cs,g∈bs∨w.heap.size≤g):ChgS bs w w2:=
 ⟨k.1.trans h.1,k.2.1.trans h.2.1,k.2.2.1.trans h.2.2.1,Nat.le_trans h.2.2.2.1 k.2.2.2.1,fun i hi hn=>(k.2.2.2.2 i (Nat.lt_of_lt_of_le hi h.2.2.2.1) (fun hm=>by rcases hb i hm with h1 |h1;exact hn h1;omega)).trans (h.2.2.2.2 i hi hn)⟩
def blks(hv:Value):List Nat:=match hv.ownBlock with |some g=> [g] |none=> []
def PP.one{S:Nat}(cs:Array Value):PP S:=⟨false,fun u w=>∃g,S≤g∧u= .slice (some ⟨g,0,none⟩) 1 1∧Bx 38 w g cs,fun _ _ _ h hp=>(let ⟨g,h1,h2,h3⟩:=hp;⟨g,h1,h2,h3.ext h⟩),fun _ _ hg _ _ _ h hp=>(let ⟨g,h1,h2,h3⟩:=hp;⟨g,h1,h2,h3.chg h (by omega)⟩)⟩
theorem ownsRow_hold{B n:Nat}{w:World}{v:Value}{vs:List Value}(h:w.ownsRow B 38 5 v (n+1) (flat vs))(h5:Five vs)(hl:vs.length=n+1):∃g cap rest,v= .slice (some ⟨g,0,none⟩) (n+1) cap∧B≤g∧n+1≤cap∧cap≤9223372036854775807∧vs.length*5+rest.length=cap*5∧HoldN g rest w vs:=by
 rcases h.2 with⟨_,h2⟩ |⟨g,cap,cur,h1,h2,h3,h4,h6,h7,h8⟩
 ·omega
 ·refine⟨g,cap,cur.toList.drop ((n+1)*5),h1,h2,h4,by unfold maxLen at h6;omega,?_,h5,?_⟩
  ·have h9:cur.toList.length=cap*5:=by rw[Array.length_toList];exact h7
   rw[List.length_drop,h9,hl]
   omega
  ·unfold Bx;rw[←h8,List.take_append_drop];exact h3
theorem hold_qheap{B k g cap n:Nat}{rest:List Value}{w:World}{vs:List Value}{d:Array Nd}(h:Nds B k g rest w vs d)(hB:B≤g)(hn:d.size=n)(hc:n≤cap)(hm:cap≤9223372036854775807)(hl:vs.length*5+rest.length=cap*5):QHeap B k w (.slice (some ⟨g,0,none⟩) n cap) d:=by
 refine⟨vs,h.1,h.2.1.1,⟨?_,.inr ⟨g,cap,_,by rw[hn],hB,h.2.1.2,by omega,by unfold maxLen;omega,?_,?_⟩⟩,h.2.2⟩
 ·rw[flat_len h.2.1.1.size,h.1]
 ·simp only[List.size_toArray,List.length_append];rw[flat_len h.2.1.1.size];exact hl
 ·show(flat vs++rest).take (d.size*5)=flat vs
  rw[List.take_append_of_le_length (by rw[flat_len h.2.1.1.size,h.1];exact Nat.le_refl _),List.take_of_length_le (by rw[flat_len h.2.1.1.size,h.1];exact Nat.le_refl _)]
theorem gA_spec{B n tb:Nat}{w w3:World}{ad:Option Addr}{cap:Nat}{xs:List Value}{cs:Array Value}(hown:w.ownsRow B 38 5 (.slice ad n cap) n xs)(hE:Ext w w3)(hb:Bx 38 w3 tb cs)(htb:w.heap.size≤tb):
  ∃gA,(∃cs,Bx 38 w3 gA cs)∧(∀wa wb:World,wa.grownBy wb (Value.slice ad n cap).ownBlock→Chg gA wa wb)∧(gA∈blks (.slice ad n cap)∨w.heap.size≤gA):=by
 rcases hown.2 with⟨h1,h2⟩ |⟨g,cap',cur,h1,h2,h3,h4⟩
 ·cases h1
  exact⟨tb,⟨cs,hb⟩,fun wa wb h=>Ext.chg tb h,.inr htb⟩
 ·cases h1
  exact⟨g,⟨cur,hE.blk h3⟩,fun wa wb h=>h,.inl (by simp[blks,Value.ownBlock])⟩
theorem blks_mem{hv:Value}{g:Nat}(h:hv.ownBlock=some g):g∈blks hv:=by simp[blks,h]
theorem up_half(i:Nat):((i:Int) - 1).tdiv 2=(((i - 1) / 2:Nat):Int):=by
 rcases i with _ |j
 ·decide
 ·rw[show (((j+1:Nat):Int) - 1)=(j:Int)by omega]
  rfl
def PushH(B k p n i g cap':Nat)(best:Bool)(hv:Value)(d:Array Nd)(x:Nd)(w w':World)(rest us:List Value)(d':Array Nd):Prop:=
 i<n+1∧Hid (Nds B k g rest w' us d'∧UpInv best d' i∧d'.toList.Perm (d.push x).toList∧d'.size=n+1∧ChgS (p::blks hv) w w'∧Bx 58 w' p #[.int .i64 (ordV best),.slice (some ⟨g,0,none⟩) (n+1) cap']∧n+1≤cap'∧cap'≤9223372036854775807∧us.length*5+rest.length=cap'*5∧B≤g∧(hv.ownBlock=some g∨w.heap.size≤g))
def PushJ(B k p n:Nat)(best:Bool)(hv:Value)(d:Array Nd)(x:Nd)(w:World)(a':Act)(w':World):Prop:=
 ∃(i g cap':Nat) (rest us:List Value) (d':Array Nd),(∃(u1 u2 u3 u5 u6 u7 u8 u9 u10 u11 u12 u13 u14 u15 u16 u17 u18 u19 u20 u21 u22 u23 u24 u25 u26 u27 u28 u29 u30 u31 u32 u33 u34 u35 u36 u37 u38 u39 u40 u41 u42 u43 u44 u45 u46 u47 u48 u49 u50 u51 u52 u53 u54 u55 u56 u57 u58 u59 u60 u61 u62 u63 u64 u65 u66 u67 u68 u69 u70 u71 u72 u73 u74 u75:Value),a'={tmps:=#[.pointer (some ⟨p,0,none⟩),u1,u2,u3,.int .i64 (i:Int),u5,u6,u7,u8,u9,u10,u11,u12,u13,u14,u15,u16,u17,u18,u19,u20,u21,u22,u23,u24,u25,u26,u27,u28,u29,u30,u31,u32,u33,u34,u35,u36,u37,u38,u39,u40,u41,u42,u43,u44,u45,u46,u47,u48,u49,u50,u51,u52,u53,u54,u55,u56,u57,u58,u59,u60,u61,u62,u63,u64,u65,u66,u67,u68,u69,u70,u71,u72,u73,u74,u75],defers:=[]})∧PushH B k p n i g cap' best hv d x w w' rest us d'
theorem PushJ.mk{B k p n i g cap':Nat}{best:Bool}{hv:Value}{d:Array Nd}{x:Nd}{w w':World}{rest us:List Value}{d':Array Nd}(u1 u2 u3 u5 u6 u7 u8 u9 u10 u11 u12 u13 u14 u15 u16 u17 u18 u19 u20 u21 u22 u23 u24 u25 u26 u27 u28 u29 u30 u31 u32 u33 u34 u35 u36 u37 u38 u39 u40 u41 u42 u43 u44 u45 u46 u47 u48 u49 u50 u51 u52 u53 u54 u55 u56 u57 u58 u59 u60 u61 u62 u63 u64 u65 u66 u67 u68 u69 u70 u71 u72 u73 u74 u75:Value)(h:PushH B k p n i g cap' best hv d x w w' rest us d'):
  PushJ B k p n best hv d x w {tmps:=#[.pointer (some ⟨p,0,none⟩),u1,u2,u3,.int .i64 (i:Int),u5,u6,u7,u8,u9,u10,u11,u12,u13,u14,u15,u16,u17,u18,u19,u20,u21,u22,u23,u24,u25,u26,u27,u28,u29,u30,u31,u32,u33,u34,u35,u36,u37,u38,u39,u40,u41,u42,u43,u44,u45,u46,u47,u48,u49,u50,u51,u52,u53,u54,u55,u56,u57,u58,u59,u60,u61,u62,u63,u64,u65,u66,u67,u68,u69,u70,u71,u72,u73,u74,u75],defers:=[]} w':=⟨i,g,cap',rest,us,d',⟨u1,u2,u3,u5,u6,u7,u8,u9,u10,u11,u12,u13,u14,u15,u16,u17,u18,u19,u20,u21,u22,u23,u24,u25,u26,u27,u28,u29,u30,u31,u32,u33,u34,u35,u36,u37,u38,u39,u40,u41,u42,u43,u44,u45,u46,u47,u48,u49,u50,u51,u52,u53,u54,u55,u56,u57,u58,u59,u60,u61,u62,u63,u64,u65,u66,u67,u68,u69,u70,u71,u72,u73,u74,u75,rfl⟩,h⟩
set_option maxHeartbeats 8000000 in
theorem push_calls(B k p:Nat)(best:Bool)(hv va:Value)(d:Array Nd)(x:Nd)(w:World)(hp:Bx 58 w p #[.int .i64 (ordV best),hv])(hq:QHeap B k w hv d)(hh:HpFrom best d 0)(hx:NdR k w va x)
  (hk:k≤LIM) (hk2:k≤34359738368) (hn:(d.size+1)*72≤140737488355328) (hB:B≤w.heap.size):
  Calls Tryz.prog 8 #[.pointer (some ⟨p,0,none⟩),va] w fun e w'=>e= .returned (.tuple #[])∧ChgS (p::blks hv) w w'∧∃hv' d',Bx 58 w' p #[.int .i64 (ordV best),hv']∧QHeap B k w' hv' d'∧HpFrom best d' 0∧d'.toList.Perm (d.push x).toList∧d'.size=d.size+1∧(∀g,hv'.ownBlock=some g→hv.ownBlock=some g∨w.heap.size≤g):=by
 obtain⟨vs,hvl,h5,hown,hnd⟩:=hq;obtain⟨b,a1,n1,c1,a2,n2,c2,rfl,rx⟩:=hx;obtain⟨ad,cap,rfl⟩:=ownsRow_len hown;obtain⟨n,hn0⟩:∃n,n=d.size:=⟨_,rfl⟩;rw[←hn0]at hp hown hn ⊢;have HN:=Lib.hid hn0;have HX:=Lib.hid rx;have HP:=Lib.hid hp;have HOwn:=Lib.hid hown;have HNd:=Lib.hid hnd;have HHh:=Lib.hid hh;have H5:=Lib.hid h5;have HVl:=Lib.hid hvl;have hpl:=blk_lt hp;clear hn0 rx hp hown hnd hh h5 hvl
 go_enter Tryz.func8,Tryz.ntmps8
 go_wp2;refine wp_scope_label 0 (PushJ B k p n best (.slice ad n cap) d x w)
  (fun a' _=>(intOf (a'.tmps.getD 4 undef)).toNat) rfl ?_ ?_
 ·rintro a' wr ⟨i,g,cap',rest,us,d',⟨u1,u2,u3,u5,u6,u7,u8,u9,u10,u11,u12,u13,u14,u15,u16,u17,u18,u19,u20,u21,u22,u23,u24,u25,u26,u27,u28,u29,u30,u31,u32,u33,u34,u35,u36,u37,u38,u39,u40,u41,u42,u43,u44,u45,u46,u47,u48,u49,u50,u51,u52,u53,u54,u55,u56,u57,u58,u59,u60,u61,u62,u63,u64,u65,u66,u67,u68,u69,u70,u71,u72,u73,u74,u75,rfl⟩,hi,hH⟩;have hup:=up_half i;obtain⟨m,hm⟩:∃m,m=(i - 1) / 2:=⟨_,rfl⟩;rw[←hm]at hup;have P2:=hH.out.2.2.2.2.2.1
  by_cases h0:i=0
  ·have hm0:m=0:=by omega
   have HU:=Lib.hid hH.out.2.1;have HI:=Lib.hid h0;clear hm hup h0;subst hm0;go_wp2_with fail;refine wpQ [PP.val (.int .i64 (i:Int)),PP.val (.bool false),PP.val (.bool false),PP.any,PP.any,PP.any,PP.any,PP.any,PP.any,PP.any,PP.any,PP.any,PP.any,PP.any,PP.any,PP.any,PP.any,PP.any,PP.any,PP.val (.bool false)] [] [0,1,2,3,4,5,6,7,8,9,10,11,12,13,14,15,16,17,18,19] ?_ ?_
   ·refine⟨?_,?_,?_,?_,?_,?_,?_,?_,?_,?_,?_,?_,?_,?_,?_,?_,?_,?_,?_,?_,trivial⟩
    ·intro f w2 hG hp hl;simp only[OpGoal];go_simp;exact⟨_,rfl,Ext.refl _,rfl⟩
    ·intro f w2 hG hp hl;have hE:Ext wr w2:=hG;have hS:=hE.size;have q29:=tE hp 0 0 rfl rfl rfl;simp only[OpGoal];go_simp;exact⟨_,rfl,Ext.refl _,congrArg Value.bool (decide_eq_false (by have:=HI.out;omega))⟩
    ·intro f w2 hG hp hl;have q30:=tE hp 0 1 rfl rfl rfl;simp only[OpGoal];go_simp;exact⟨_,rfl,Ext.refl _,rfl⟩
    ·intro f w2 hG hp hl;have qg:=tE hp 0 2 rfl rfl rfl;exact og_skip rfl qg (by decide) trivial
    ·intro f w2 hG hp hl;have qg:=tE hp 0 2 rfl rfl rfl;exact og_skip rfl qg (by decide) trivial
    ·intro f w2 hG hp hl;have qg:=tE hp 1 2 rfl rfl rfl;exact og_skip rfl qg (by decide) trivial
    ·intro f w2 hG hp hl;have qg:=tE hp 1 2 rfl rfl rfl;exact og_skip rfl qg (by decide) trivial
    ·intro f w2 hG hp hl;have qg:=tE hp 1 2 rfl rfl rfl;exact og_skip rfl qg (by decide) trivial
    ·intro f w2 hG hp hl;have qg:=tE hp 0 2 rfl rfl rfl;exact og_skip rfl qg (by decide) trivial
    ·intro f w2 hG hp hl;have qg:=tE hp 2 2 rfl rfl rfl;exact og_skip rfl qg (by decide) trivial
    ·intro f w2 hG hp hl;have qg:=tE hp 1 2 rfl rfl rfl;exact og_skip rfl qg (by decide) trivial
    ·intro f w2 hG hp hl;have qg:=tE hp 0 2 rfl rfl rfl;exact og_skip rfl qg (by decide) trivial
    ·intro f w2 hG hp hl;have qg:=tE hp 1 2 rfl rfl rfl;exact og_skip rfl qg (by decide) trivial
    ·intro f w2 hG hp hl;have qg:=tE hp 1 2 rfl rfl rfl;exact og_skip rfl qg (by decide) trivial
    ·intro f w2 hG hp hl;have qg:=tE hp 1 2 rfl rfl rfl;exact og_skip rfl qg (by decide) trivial
    ·intro f w2 hG hp hl;have qg:=tE hp 0 2 rfl rfl rfl;exact og_skip rfl qg (by decide) trivial
    ·intro f w2 hG hp hl;have qg:=tE hp 2 2 rfl rfl rfl;exact og_skip rfl qg (by decide) trivial
    ·intro f w2 hG hp hl;have qg:=tE hp 1 2 rfl rfl rfl;exact og_skip rfl qg (by decide) trivial
    ·intro f w2 hG hp hl;have qg:=tE hp 3 2 rfl rfl rfl;exact og_skip rfl qg (by decide) trivial
    ·intro f w2 hG hp hl;have q31:=tE hp 0 2 rfl rfl rfl;simp only[OpGoal];go_simp;exact⟨_,rfl,Ext.refl _,rfl⟩
   ·intro f w2 hG hp;have hE:Ext wr w2:=ChgS.nil hG
    have q48:f 19= .bool false:=endV hp 19 (by decide) rfl (fun h=>by cases h)
    try simp only[q48]
    clear hp;go_wp2;simp only[Exit.jump]
    go_end0
    have HF:=Lib.hid (UpInv.stop hH.out.2.1 (.inl HI.out));obtain⟨q1,q2,q3,q4,q5,q6,q7,q8,q9,q10,q11⟩:=hH.out;refine⟨rfl,q5.trans (hE.chgS _),_,d',q6.ext hE,hold_qheap (q1.ext hE) q10 q4 q7 q8 q9,HF.out,q3,q4,fun g2 hg2=> ?_⟩;simp only[Value.ownBlock,Option.some.injEq]at hg2;subst hg2;exact q11
  ·have hi0':0<i:=by omega
   have hi0:(0:Int)<(i:Int):=by omega
   have hmi:m<i:=by omega
   have hmn:m<n+1:=by omega
   have hin':(i:Int)<(n:Int)+1:=by omega
   have hmn':(m:Int)<(n:Int)+1:=by omega
   have hmM:=Lib.hid hm;have N2:=hH.out.1;have hdn:=hH.out.2.2.2.1;obtain⟨b1,a3,n3,c3,e1,m1,f1,hv1,hcell1,hnd1⟩:=N2.at (i:=i) (by omega);obtain⟨b2,a4,n4,c4,e2,m2,f2,hv2,hcell2,hnd2⟩:=N2.at (i:=m) (by omega);have HC1:=Lib.hid hcell1;have HC2:=Lib.hid hcell2;have HN1:=Lib.hid hnd1;have HN2:=Lib.hid hnd2;have HV1:=Lib.hid hv1;have HV2:=Lib.hid hv2;have HDN:=Lib.hid hdn;obtain⟨r,hr⟩:∃r,r=decide (Lt best d'[i]! d'[m]!):=⟨_,rfl⟩;have Hr:=Lib.hid hr.symm;obtain⟨x1,hx1⟩:∃x,x=d'[i]! :=⟨_,rfl⟩;obtain⟨x2,hx2⟩:∃x,x=d'[m]! :=⟨_,rfl⟩;rw[←hx1]at HC1 HN1 Hr HV1;rw[←hx2]at HC2 HN2 Hr HV2;have HX1:=Lib.hid hx1;have HX2:=Lib.hid hx2;clear hr hx1 hx2 hcell1 hcell2 hnd1 hnd2 hv1 hv2 N2 hdn hm h0;go_wp2_with fail;refine wpQ [PP.val (.int .i64 (i:Int)),PP.val (.bool true),PP.val (.bool true),PP.val (.pointer (some ⟨p,0,none⟩)),PP.val (.pointer (some ⟨p,0,none⟩)),PP.val (.pointer (some ⟨p,0,none⟩)),PP.val (.pointer (some ⟨p,1,none⟩)),PP.val (.slice (some ⟨g,0,none⟩) (n+1) cap'),PP.val (.int .i64 (i:Int)),PP.val (.pointer (some ⟨g,i*5,none⟩)),PP.val (.agg #[.int .i64 x1.id,.int .i64 x1.depth,.bool b1,.slice a3 n3 c3,.slice e1 m1 f1]),PP.val (.pointer (some ⟨p,0,none⟩)),PP.val (.pointer (some ⟨p,0,none⟩)),PP.val (.pointer (some ⟨p,1,none⟩)),PP.val (.slice (some ⟨g,0,none⟩) (n+1) cap'),PP.val (.int .i64 (m:Int)),PP.val (.pointer (some ⟨g,m*5,none⟩)),PP.val (.agg #[.int .i64 x2.id,.int .i64 x2.depth,.bool b2,.slice a4 n4 c4,.slice e2 m2 f2]),PP.val (.bool r),PP.val (.bool r)] [] [0,1,2,3,4,5,6,7,8,9,10,11,12,13,14,15,16,17,18,19] ?_ ?_
   ·refine⟨?_,?_,?_,?_,?_,?_,?_,?_,?_,?_,?_,?_,?_,?_,?_,?_,?_,?_,?_,?_,trivial⟩
    ·intro f w2 hG hp hl;simp only[OpGoal];go_simp;exact⟨_,rfl,Ext.refl _,rfl⟩
    ·intro f w2 hG hp hl;have q29:=tE hp 0 0 rfl rfl rfl;simp only[OpGoal];go_simp;exact⟨_,rfl,Ext.refl _,rfl⟩
    ·intro f w2 hG hp hl;have q30:=tE hp 0 1 rfl rfl rfl;simp only[OpGoal];go_simp;exact⟨_,rfl,Ext.refl _,rfl⟩
    ·intro f w2 hG hp hl;have qg:=tE hp 0 2 rfl rfl rfl;change OpGoal _ _ _ f w2 Ext _;refine og_guard (j:=2) (want:=true) rfl qg ?_;simp only[OpGoal];go_simp;exact⟨_,rfl,Ext.refl _,rfl⟩
    ·intro f w2 hG hp hl;have qg:=tE hp 0 2 rfl rfl rfl;change OpGoal _ _ _ f w2 Ext _;refine og_guard (j:=2) (want:=true) rfl qg ?_;simp only[OpGoal];go_simp;exact⟨_,rfl,Ext.refl _,rfl⟩
    ·intro f w2 hG hp hl;have q33:=tE hp 0 4 rfl rfl rfl;have qg:=tE hp 1 2 rfl rfl rfl;change OpGoal _ _ _ f w2 Ext _;refine og_guard (j:=2) (want:=true) rfl qg ?_;simp only[OpGoal];go_simp;exact⟨_,rfl,Ext.refl _,rfl⟩
    ·intro f w2 hG hp hl;have q34:=tE hp 0 5 rfl rfl rfl;have qg:=tE hp 1 2 rfl rfl rfl;change OpGoal _ _ _ f w2 Ext _;refine og_guard (j:=2) (want:=true) rfl qg ?_;simp only[OpGoal];go_simp;exact⟨_,rfl,Ext.refl _,rfl⟩
    ·intro f w2 hG hp hl;have hE:Ext wr w2:=hG;have q35:=tE hp 0 6 rfl rfl rfl;have qg:=tE hp 1 2 rfl rfl rfl;change OpGoal _ _ _ f w2 Ext _;refine og_guard (j:=2) (want:=true) rfl qg ?_;have hcell:=(P2.ext hE).cell 1;simp only[OpGoal];go_simp;exact⟨_,rfl,Ext.refl _,rfl⟩
    ·intro f w2 hG hp hl;have qg:=tE hp 0 2 rfl rfl rfl;change OpGoal _ _ _ f w2 Ext _;refine og_guard (j:=2) (want:=true) rfl qg ?_;simp only[OpGoal];go_simp;exact⟨_,rfl,Ext.refl _,rfl⟩
    ·intro f w2 hG hp hl;have q36:=tE hp 0 7 rfl rfl rfl;have q37:=tE hp 1 8 rfl rfl rfl;have qg:=tE hp 2 2 rfl rfl rfl;change OpGoal _ _ _ f w2 Ext _;refine og_guard (j:=2) (want:=true) rfl qg ?_;simp only[OpGoal];go_simp;exact⟨_,rfl,Ext.refl _,rfl⟩
    ·intro f w2 hG hp hl;have hE:Ext wr w2:=hG;have q38:=tE hp 0 9 rfl rfl rfl;have qg:=tE hp 1 2 rfl rfl rfl;change OpGoal _ _ _ f w2 Ext _;refine og_guard (j:=2) (want:=true) rfl qg ?_;change OpGoal _ _ _ f w2 Ext _;exact og_loadAt (P:=Tryz.prog) _ _ g (i*5) _ _ rfl rfl q38 (fun j v h=>HC1.out _ hE j v h) Tryz.underlying38 rfl (by kernel_rfl) rfl
    ·intro f w2 hG hp hl;have qg:=tE hp 0 2 rfl rfl rfl;change OpGoal _ _ _ f w2 Ext _;refine og_guard (j:=2) (want:=true) rfl qg ?_;simp only[OpGoal];go_simp;exact⟨_,rfl,Ext.refl _,rfl⟩
    ·intro f w2 hG hp hl;have q40:=tE hp 0 11 rfl rfl rfl;have qg:=tE hp 1 2 rfl rfl rfl;change OpGoal _ _ _ f w2 Ext _;refine og_guard (j:=2) (want:=true) rfl qg ?_;simp only[OpGoal];go_simp;exact⟨_,rfl,Ext.refl _,rfl⟩
    ·intro f w2 hG hp hl;have q41:=tE hp 0 12 rfl rfl rfl;have qg:=tE hp 1 2 rfl rfl rfl;change OpGoal _ _ _ f w2 Ext _;refine og_guard (j:=2) (want:=true) rfl qg ?_;simp only[OpGoal];go_simp;exact⟨_,rfl,Ext.refl _,rfl⟩
    ·intro f w2 hG hp hl;have hE:Ext wr w2:=hG;have q42:=tE hp 0 13 rfl rfl rfl;have qg:=tE hp 1 2 rfl rfl rfl;change OpGoal _ _ _ f w2 Ext _;refine og_guard (j:=2) (want:=true) rfl qg ?_;have hcell:=(P2.ext hE).cell 1;simp only[OpGoal];go_simp;exact⟨_,rfl,Ext.refl _,rfl⟩
    ·intro f w2 hG hp hl;have qg:=tE hp 0 2 rfl rfl rfl;change OpGoal _ _ _ f w2 Ext _;refine og_guard (j:=2) (want:=true) rfl qg ?_;simp only[OpGoal];go_simp;exact⟨_,rfl,Ext.refl _,rfl⟩
    ·intro f w2 hG hp hl;have q43:=tE hp 0 14 rfl rfl rfl;have q44:=tE hp 1 15 rfl rfl rfl;have qg:=tE hp 2 2 rfl rfl rfl;change OpGoal _ _ _ f w2 Ext _;refine og_guard (j:=2) (want:=true) rfl qg ?_;simp only[OpGoal];go_simp;exact⟨_,rfl,Ext.refl _,rfl⟩
    ·intro f w2 hG hp hl;have hE:Ext wr w2:=hG;have q45:=tE hp 0 16 rfl rfl rfl;have qg:=tE hp 1 2 rfl rfl rfl;change OpGoal _ _ _ f w2 Ext _;refine og_guard (j:=2) (want:=true) rfl qg ?_;change OpGoal _ _ _ f w2 Ext _;exact og_loadAt (P:=Tryz.prog) _ _ g (m*5) _ _ rfl rfl q45 (fun j v h=>HC2.out _ hE j v h) Tryz.underlying38 rfl (by kernel_rfl) rfl
    ·intro f w2 hG hp hl;have hE:Ext wr w2:=hG;have q32:=tE hp 0 3 rfl rfl rfl;have q39:=tE hp 1 10 rfl rfl rfl;have q46:=tE hp 2 17 rfl rfl rfl;have qg:=tE hp 3 2 rfl rfl rfl;change OpGoal _ _ _ f w2 Ext _;refine og_guard (j:=2) (want:=true) rfl qg ?_;change OpGoal _ _ _ f w2 Ext _;refine oC #[f 3,f 10,f 17] Tryz.func25 rfl rfl ?_;rw[q32,q39,q46];refine(ahead_calls p best _ _ _ x1 x2 k _ (P2.ext hE) ((HN1.out.r hk).ext hE) ((HN2.out.r hk).ext hE) hk2).mono ?_;rw[Hr.out];rintro e w' ⟨rfl,h2⟩;exact⟨_,rfl,h2,rfl⟩
    ·intro f w2 hG hp hl;have q31:=tE hp 0 2 rfl rfl rfl;have q47:=tE hp 1 18 rfl rfl rfl;simp only[OpGoal];go_simp;exact⟨_,rfl,Ext.refl _,rfl⟩
   ·intro f w2 hG hp;have hE:Ext wr w2:=ChgS.nil hG
    have q48:f 19= .bool r:=endV hp 19 (by decide) rfl (fun h=>by cases h)
    try simp only[q48]
    clear hp
    cases r with
    |false=>
     have HLt:=Lib.hid (show¬Lt best d'[i]! d'[m]! by rw[←HX1.out,←HX2.out];exact of_decide_eq_false Hr.out);go_wp2;simp only[Exit.jump]
     go_end0
     have HF:=Lib.hid (UpInv.stop hH.out.2.1 (.inr (by rw[←hmM.out];exact HLt.out)));obtain⟨q1,q2,q3,q4,q5,q6,q7,q8,q9,q10,q11⟩:=hH.out;refine⟨rfl,q5.trans (hE.chgS _),_,d',q6.ext hE,hold_qheap (q1.ext hE) q10 q4 q7 q8 q9,HF.out,q3,q4,fun g2 hg2=> ?_⟩;simp only[Value.ownBlock,Option.some.injEq]at hg2;subst hg2;exact q11
    |true=>
     have HLt:=Lib.hid (show Lt best d'[i]! d'[m]! by rw[←HX1.out,←HX2.out];exact of_decide_eq_true Hr.out);have P3:=P2.ext hE;have HNds:=Lib.hid (hH.out.1.ext hE);have HC3:=Lib.hid (show∀wz,Ext w2 wz→_ from fun wz hz=>HC1.out wz (hE.trans hz));have HC4:=Lib.hid (show∀wz,Ext w2 wz→_ from fun wz hz=>HC2.out wz (hE.trans hz))
     have him:i≠m:=by omega
     have hE0:=hE;clear hE;go_wp2_with fail
     refine wp_region_swp g (n+1) i m 25 27 rest us (.agg #[.int .i64 x1.id,.int .i64 x1.depth,.bool b1,.slice a3 n3 c3,.slice e1 m1 f1]) (.agg #[.int .i64 x2.id,.int .i64 x2.depth,.bool b2,.slice a4 n4 c4,.slice e2 m2 f2]) [PP.val (.pointer (some ⟨p,0,none⟩)),PP.val (.pointer (some ⟨p,0,none⟩)),PP.val (.pointer (some ⟨p,1,none⟩)),PP.val (.slice (some ⟨g,0,none⟩) (n+1) cap'),PP.val (.int .i64 (i:Int)),PP.val (.pointer (some ⟨p,0,none⟩)),PP.val (.pointer (some ⟨p,0,none⟩)),PP.val (.pointer (some ⟨p,1,none⟩)),PP.val (.slice (some ⟨g,0,none⟩) (n+1) cap'),PP.val (.int .i64 (m:Int)),PP.val (.pointer (some ⟨p,0,none⟩)),PP.val (.pointer (some ⟨p,0,none⟩)),PP.val (.pointer (some ⟨p,1,none⟩)),PP.val (.slice (some ⟨g,0,none⟩) (n+1) cap'),PP.val (.int .i64 (m:Int)),PP.val (.pointer (some ⟨g,m*5,none⟩)),PP.val (.agg #[.int .i64 x2.id,.int .i64 x2.depth,.bool b2,.slice a4 n4 c4,.slice e2 m2 f2]),PP.val (.pointer (some ⟨p,0,none⟩)),PP.val (.pointer (some ⟨p,0,none⟩)),PP.val (.pointer (some ⟨p,1,none⟩)),PP.val (.slice (some ⟨g,0,none⟩) (n+1) cap'),PP.val (.int .i64 (i:Int)),PP.val (.pointer (some ⟨g,i*5,none⟩)),PP.val (.agg #[.int .i64 x1.id,.int .i64 x1.depth,.bool b1,.slice a3 n3 c3,.slice e1 m1 f1]),PP.val (.pointer (some ⟨g,i*5,none⟩)),PP.any,PP.val (.pointer (some ⟨g,m*5,none⟩)),PP.any] [] [25,24,23,22,21,20,19,18,17,16,15,14,13,12,11,10,8,7,6,5,4,3,2,1,0] (by kernel_rfl) (by kernel_rfl) (fun f=>(by simp only[fillR,fillL,List.setIfInBounds_toArray,List.set_cons_succ,List.set_cons_zero,Nat.reduceAdd];rfl)) him (by decide) (HNds.out.1.trans HDN.out) HNds.out.2.1 hi hmn (by intro p hp;simp only[List.mem_cons,List.not_mem_nil,or_false]at hp;rcases hp with rfl |rfl |rfl |rfl |rfl |rfl |rfl |rfl |rfl |rfl |rfl |rfl |rfl |rfl |rfl |rfl |rfl |rfl |rfl |rfl |rfl |rfl |rfl |rfl |rfl |rfl |rfl |rfl<;>rfl) ?_ ?_ (by decide) (by decide)
     ·refine⟨?_,?_,?_,?_,?_,?_,?_,?_,?_,?_,?_,?_,?_,?_,?_,?_,?_,?_,?_,?_,?_,?_,?_,?_,?_,?_,?_,?_,trivial⟩
      ·intro f w4 hG hp hl;simp only[OpGoal];go_simp;exact⟨_,rfl,Ext.refl _,rfl⟩
      ·intro f w4 hG hp hl
       have q49:f 0= .pointer (some ⟨p,0,none⟩):=tellM hp 0 0 rfl rfl
       simp only[OpGoal];go_simp;exact⟨_,rfl,Ext.refl _,rfl⟩
      ·intro f w4 hG hp hl
       have q50:f 1= .pointer (some ⟨p,0,none⟩):=tellM hp 0 1 rfl rfl
       simp only[OpGoal];go_simp;exact⟨_,rfl,Ext.refl _,rfl⟩
      ·intro f w4 hG hp hl;have hE:Ext w2 w4:=hG
       have q51:f 2= .pointer (some ⟨p,1,none⟩):=tellM hp 0 2 rfl rfl
       have hcell:=(P3.ext hE).cell 1;simp only[OpGoal];go_simp;exact⟨_,rfl,Ext.refl _,rfl⟩
      ·intro f w4 hG hp hl;simp only[OpGoal];go_simp;exact⟨_,rfl,Ext.refl _,rfl⟩
      ·intro f w4 hG hp hl;simp only[OpGoal];go_simp;exact⟨_,rfl,Ext.refl _,rfl⟩
      ·intro f w4 hG hp hl
       have q54:f 5= .pointer (some ⟨p,0,none⟩):=tellM hp 0 5 rfl rfl
       simp only[OpGoal];go_simp;exact⟨_,rfl,Ext.refl _,rfl⟩
      ·intro f w4 hG hp hl
       have q55:f 6= .pointer (some ⟨p,0,none⟩):=tellM hp 0 6 rfl rfl
       simp only[OpGoal];go_simp;exact⟨_,rfl,Ext.refl _,rfl⟩
      ·intro f w4 hG hp hl;have hE:Ext w2 w4:=hG
       have q56:f 7= .pointer (some ⟨p,1,none⟩):=tellM hp 0 7 rfl rfl
       have hcell:=(P3.ext hE).cell 1;simp only[OpGoal];go_simp;exact⟨_,rfl,Ext.refl _,rfl⟩
      ·intro f w4 hG hp hl;have hS:w2.heap.size≤w4.heap.size:=hG.2.2.2.1;simp only[OpGoal];go_simp;exact⟨_,rfl,Ext.refl _,rfl⟩
      ·intro f w4 hG hp hl;simp only[OpGoal];go_simp;exact⟨_,rfl,Ext.refl _,rfl⟩
      ·intro f w4 hG hp hl
       have q59:f 10= .pointer (some ⟨p,0,none⟩):=tellM hp 0 10 rfl rfl
       simp only[OpGoal];go_simp;exact⟨_,rfl,Ext.refl _,rfl⟩
      ·intro f w4 hG hp hl
       have q60:f 11= .pointer (some ⟨p,0,none⟩):=tellM hp 0 11 rfl rfl
       simp only[OpGoal];go_simp;exact⟨_,rfl,Ext.refl _,rfl⟩
      ·intro f w4 hG hp hl;have hE:Ext w2 w4:=hG
       have q61:f 12= .pointer (some ⟨p,1,none⟩):=tellM hp 0 12 rfl rfl
       have hcell:=(P3.ext hE).cell 1;simp only[OpGoal];go_simp;exact⟨_,rfl,Ext.refl _,rfl⟩
      ·intro f w4 hG hp hl;simp only[OpGoal];go_simp;exact⟨_,rfl,Ext.refl _,rfl⟩
      ·intro f w4 hG hp hl
       have q62:f 13= .slice (some ⟨g,0,none⟩) (n+1) cap':=tellM hp 0 13 rfl rfl
       have q63:f 14= .int .i64 (m:Int):=tellM hp 1 14 rfl rfl
       simp only[OpGoal];go_simp;exact⟨_,rfl,Ext.refl _,rfl⟩
      ·intro f w4 hG hp hl;have hE:Ext w2 w4:=hG
       have q64:f 15= .pointer (some ⟨g,m*5,none⟩):=tellM hp 0 15 rfl rfl
       change OpGoal _ _ _ f w4 Ext _;exact og_loadAt (P:=Tryz.prog) _ _ g (m*5) _ _ rfl rfl q64 (fun j v h=>HC4.out _ hE j v h) Tryz.underlying38 rfl (by kernel_rfl) rfl
      ·intro f w4 hG hp hl;simp only[OpGoal];go_simp;exact⟨_,rfl,Ext.refl _,rfl⟩
      ·intro f w4 hG hp hl
       have q66:f 17= .pointer (some ⟨p,0,none⟩):=tellM hp 0 17 rfl rfl
       simp only[OpGoal];go_simp;exact⟨_,rfl,Ext.refl _,rfl⟩
      ·intro f w4 hG hp hl
       have q67:f 18= .pointer (some ⟨p,0,none⟩):=tellM hp 0 18 rfl rfl
       simp only[OpGoal];go_simp;exact⟨_,rfl,Ext.refl _,rfl⟩
      ·intro f w4 hG hp hl;have hE:Ext w2 w4:=hG
       have q68:f 19= .pointer (some ⟨p,1,none⟩):=tellM hp 0 19 rfl rfl
       have hcell:=(P3.ext hE).cell 1;simp only[OpGoal];go_simp;exact⟨_,rfl,Ext.refl _,rfl⟩
      ·intro f w4 hG hp hl;simp only[OpGoal];go_simp;exact⟨_,rfl,Ext.refl _,rfl⟩
      ·intro f w4 hG hp hl
       have q69:f 20= .slice (some ⟨g,0,none⟩) (n+1) cap':=tellM hp 0 20 rfl rfl
       have q70:f 21= .int .i64 (i:Int):=tellM hp 1 21 rfl rfl
       simp only[OpGoal];go_simp;exact⟨_,rfl,Ext.refl _,rfl⟩
      ·intro f w4 hG hp hl;have hE:Ext w2 w4:=hG
       have q71:f 22= .pointer (some ⟨g,i*5,none⟩):=tellM hp 0 22 rfl rfl
       change OpGoal _ _ _ f w4 Ext _;exact og_loadAt (P:=Tryz.prog) _ _ g (i*5) _ _ rfl rfl q71 (fun j v h=>HC3.out _ hE j v h) Tryz.underlying38 rfl (by kernel_rfl) rfl
      ·intro f w4 hG hp hl
       have q52:f 3= .slice (some ⟨g,0,none⟩) (n+1) cap':=tellM hp 0 3 rfl rfl
       have q53:f 4= .int .i64 (i:Int):=tellM hp 1 4 rfl rfl
       simp only[OpGoal];go_simp;exact⟨_,rfl,Ext.refl _,rfl⟩
      ·intro f w4 hG hp hl
       have q73:f 24= .pointer (some ⟨g,i*5,none⟩):=tellM hp 0 24 rfl rfl
       have q65:f 16= .agg #[.int .i64 x2.id,.int .i64 x2.depth,.bool b2,.slice a4 n4 c4,.slice e2 m2 f2]:=tellM hp 1 16 rfl rfl
       intro hI hU;exact og_stN (P:=Tryz.prog) g (n+1) _ _ 25 i _ _ _ _ _ _ rfl rfl q73 q65 hi (by kernel_rfl) (HN2.out.five) hI
      ·intro f w4 hG hp hl;have hS:w2.heap.size≤w4.heap.size:=hG.2.2.2.1
       have q57:f 8= .slice (some ⟨g,0,none⟩) (n+1) cap':=tellM hp 0 8 rfl rfl
       have q58:f 9= .int .i64 (m:Int):=tellM hp 1 9 rfl rfl
       simp only[OpGoal];go_simp;exact⟨_,rfl,Ext.refl _,rfl⟩
      ·intro f w4 hG hp hl;have hS:w2.heap.size≤w4.heap.size:=hG.2.2.2.1
       have q74:f 26= .pointer (some ⟨g,m*5,none⟩):=tellM hp 0 26 rfl rfl
       have q72:f 23= .agg #[.int .i64 x1.id,.int .i64 x1.depth,.bool b1,.slice a3 n3 c3,.slice e1 m1 f1]:=tellM hp 1 23 rfl rfl
       intro hI hU;exact og_stN (P:=Tryz.prog) g (n+1) _ _ 27 m _ _ _ _ _ _ rfl rfl q74 q72 hmn (by kernel_rfl) (HN1.out.five) hI
     ·intro f w4 hC hW hp;clear hp;have HSw:=Lib.hid (HNds.out.swap hC (by rw[HDN.out];exact hi) (by rw[HDN.out];exact hmn) HV1.out HV2.out hW);clear hW;have HUp:=Lib.hid (UpInv.step' hH.out.2.1 hmM.out (by rw[HDN.out];exact hi) (by rw[HDN.out];exact hmn) hi0' HLt.out)
      have hpg:p≠g:=by
       rintro rfl;have h1:=HNds.out.2.1.2;have h2:=P3;unfold Bx at h1 h2;rw[h1]at h2
       simp at h2
      have HP4:=Lib.hid (P3.chg hC hpg);clear P2 P3;go_wp2
      go_step3
      obtain⟨-, -,q3,q4,q5,q6,q7,q8,q9,q10,q11⟩:=hH.out;refine⟨rfl,PushJ.mk _ _ _ _ _ _ _ _ _ _ _ _ _ _ _ _ _ _ _ _ _ _ _ _ _ _ _ _ _ _ _ _ _ _ _ _ _ _ _ _ _ _ _ _ _ _ _ _ _ _ _ _ _ _ _ _ _ _ _ _ _ _ _ _ _ _ _ _ _ _ _ _ _ _ ⟨hmn,Lib.hid ⟨HSw.out,HUp.out,(Array.perm_iff_toList_perm.1 (Array.swap_perm _ _)).trans q3,by rw[Array.size_swap];exact q4,ChgS.stepC (q5.trans (hE0.chgS _)) hC (q11.imp_left fun h=>List.mem_cons_of_mem _ (blks_mem h)),HP4.out,q7,q8,by rw[List.length_set,List.length_set];exact q9,q10,q11⟩⟩,?_⟩
      simp[intOf]
      omega
 ·intro hpass;have Hpass:=Lib.hid hpass;clear hpass;obtain⟨w1,hw1,e1,b1,s1⟩:=alloc1 w #[.int .i64 x.id,.int .i64 x.depth,.bool b,.slice a1 n1 c1,.slice a2 n2 c2] 38;have hc2:=b1.cell 2;have hc3:=b1.cell 3;have hc4:=b1.cell 4;rw[hw1]at hc2 hc3 hc4;go_wp2_with fail;rw[←hw1];clear hc2 hc3 hc4;refine(form_calls _ x.q k _ (HX.out.ext e1) (by omega)).mono ?_;rintro e w2 ⟨v2,rfl,q2,e2⟩;obtain⟨b3,ad3,l3,cap3,bd3,m3,dap3,rfl,q3⟩:=q2.opn;have B2:=b1.ext e2;have hf2:=B2.free 2;have hf3:=B2.free 3;have hf4:=B2.free 4;have hc2:=B2.cell 2;have hc3:=B2.cell 3;have hc4:=B2.cell 4;have B3:=((B2.set 2 (.bool b3)).set 3 (.slice ad3 l3 cap3)).set 4 (.slice bd3 m3 dap3);have CH:=Chg.trans (Chg.trans (Chg.setCell w2 w.heap.size 2 (.bool b3)) (Chg.setCell _ w.heap.size 3 (.slice ad3 l3 cap3))) (Chg.setCell _ w.heap.size 4 (.slice bd3 m3 dap3));go_wp2_with fail;obtain⟨w3,hw3⟩:∃w3,w3=((w2.setCell ⟨w.heap.size,2,none⟩ (.bool b3)).setCell ⟨w.heap.size,3,none⟩ (.slice ad3 l3 cap3)).setCell ⟨w.heap.size,4,none⟩ (.slice bd3 m3 dap3):=⟨_,rfl⟩;rw[←hw3]at B3 CH;rw[←hw3];clear hw3 hf2 hf3 hf4 hc2 hc3 hc4;have B3':Bx 38 w3 w.heap.size #[.int .i64 x.id,.int .i64 x.depth,.bool b3,.slice ad3 l3 cap3,.slice bd3 m3 dap3]:=B3;clear B3;have E3:=(e1.trans e2).step CH (Nat.le_refl _);have hs1:=e1.size;have hs2:=e2.size;have hs3:=E3.size;have HV:=Lib.hid (show NdV B k w3 (.agg #[.int .i64 x.id,.int .i64 x.depth,.bool b3,.slice ad3 l3 cap3,.slice bd3 m3 dap3]) x from⟨_,_,_,_,_,_,_,rfl,(q3.chg CH (by omega)).mono (by omega),HX.out.sz⟩)
  have P3:=HP.out.ext E3;have HO3:=Lib.hid (ownsRow_ext HOwn.out E3);obtain⟨gA,hgA,hgr,hgb⟩:=gA_spec HOwn.out E3 B3' (Nat.le_refl _)
  have hgAp:gA≠p:=by
   rintro rfl;obtain⟨cs,h1⟩:=hgA;have h2:=P3;unfold Bx at h1 h2;rw[h1]at h2
   simp at h2
  have HGA:=Lib.hid hgA;have HGR:=Lib.hid hgr
  have hgAl:gA<w3.heap.size:=by obtain⟨cs,h1⟩:=hgA;exact blk_lt h1
  clear hgA hgr;have E3':=E3;clear e1 e2 CH b1 B2 E3
  refine wp_region_app w.heap.size gA p B n 7 10 (.int .i64 (ordV best)) (.slice ad n cap) (flat vs++ [.int .i64 x.id,.int .i64 x.depth,.bool b3,.slice ad3 l3 cap3,.slice bd3 m3 dap3]) [PP.val (.pointer (some ⟨p,0,none⟩)),PP.val (.pointer (some ⟨p,0,none⟩)),PP.val (.pointer (some ⟨p,0,none⟩)),PP.val (.pointer (some ⟨p,1,none⟩)),PP.val (.slice ad n cap),PP.val (.agg #[.int .i64 x.id,.int .i64 x.depth,.bool b3,.slice ad3 l3 cap3,.slice bd3 m3 dap3]),PP.one #[.int .i64 x.id,.int .i64 x.depth,.bool b3,.slice ad3 l3 cap3,.slice bd3 m3 dap3],PP.any,PP.val (.pointer (some ⟨p,0,none⟩)),PP.val (.pointer (some ⟨p,1,none⟩)),PP.any] [] [7,6,5,4,3,2,1] (by kernel_rfl) (by kernel_rfl) (fun f=>(by simp only[fillR,fillL,List.setIfInBounds_toArray,List.set_cons_succ,List.set_cons_zero,Nat.reduceAdd];rfl)) (by decide) hgAp hgAl P3 ⟨_,_,rfl⟩ (by intro p hp;simp only[List.mem_cons,List.not_mem_nil,or_false]at hp;rcases hp with rfl |rfl |rfl |rfl |rfl |rfl |rfl |rfl |rfl |rfl |rfl<;>rfl) ?_ ?_ (by decide)
  ·refine⟨?_,?_,?_,?_,?_,?_,?_,?_,?_,?_,?_,trivial⟩
   ·intro f w4 hG hp hl;have hS:w3.heap.size≤w4.heap.size:=hG.2.2.2.1;simp only[OpGoal];go_simp;exact⟨_,rfl,Ext.refl _,rfl⟩
   ·intro f w4 hG hp hl;simp only[OpGoal];go_simp;exact⟨_,rfl,Ext.refl _,rfl⟩
   ·intro f w4 hG hp hl
    have q11:f 1= .pointer (some ⟨p,0,none⟩):=tellM hp 0 1 rfl rfl
    simp only[OpGoal];go_simp;exact⟨_,rfl,Ext.refl _,rfl⟩
   ·intro f w4 hG hp hl
    have q12:f 2= .pointer (some ⟨p,0,none⟩):=tellM hp 0 2 rfl rfl
    simp only[OpGoal];go_simp;exact⟨_,rfl,Ext.refl _,rfl⟩
   ·intro f w4 hG hp hl;have hE:Ext w3 w4:=hG
    have q13:f 3= .pointer (some ⟨p,1,none⟩):=tellM hp 0 3 rfl rfl
    have hcell:=(P3.ext hE).cell 1;simp only[OpGoal];go_simp;exact⟨_,rfl,Ext.refl _,rfl⟩
   ·intro f w4 hG hp hl;have hE:Ext w3 w4:=hG;change OpGoal _ _ _ f w4 Ext _;exact og_load (P:=Tryz.prog) _ _ w.heap.size _ _ _ rfl rfl rfl (B3'.ext hE) Tryz.underlying38 rfl (by kernel_rfl) rfl
   ·intro f w4 hG hp hl;have hE:Ext w3 w4:=hG;have hS:=hE.size
    have q15:f 5= .agg #[.int .i64 x.id,.int .i64 x.depth,.bool b3,.slice ad3 l3 cap3,.slice bd3 m3 dap3]:=tellM hp 0 5 rfl rfl
    change OpGoal _ _ _ f w4 Ext _;exact og_buildSlice (P:=Tryz.prog) 29 38 1 5 _ [.agg #[.int .i64 x.id,.int .i64 x.depth,.bool b3,.slice ad3 l3 cap3,.slice bd3 m3 dap3]] rfl rfl Tryz.underlying29 (by kernel_rfl) (by kernel_rfl) (by simp only[Act.eval];exact congrArg (fun z=> [(0,z)]) q15) rfl (by omega) (by omega) (by omega) HV.out.five.size (fun w' he hb=>⟨_,hS,rfl,hb⟩)
   ·intro f w4 hG hp hl;have hE:Ext w3 w4:=hG;have hS:=hE.size
    have q14:f 4= .slice ad n cap:=tellM hp 0 4 rfl rfl
    have q16:=tellM hp 1 6 rfl rfl;intro hI hU
    have q14:f 4= .slice ad n cap:=tellM hp 0 4 rfl rfl
    obtain⟨gx,hgx,hvx,hbx⟩:=tellM hp 1 6 rfl rfl
    exact og_append (P:=Tryz.prog) _ _ 29 rfl rfl B 38 5 72 Tryz.underlying29 (by kernel_rfl) (by kernel_rfl) (by omega) (.slice ad n cap) n (flat vs) q14 (ownsRow_ext HO3.out hE) ⟨gx,0,none⟩ 1 1 [.int .i64 x.id,.int .i64 x.depth,.bool b3,.slice ad3 l3 cap3,.slice bd3 m3 dap3] hvx rfl (fun j u hj=>by rw[addr_add,Nat.zero_add,hbx.cell];simpa using hj) (by intro u hu;simp at hu;rcases hu with rfl |rfl |rfl |rfl |rfl<;>rfl) (by omega) (by unfold maxLen;omega) (by omega) (by have:=hE.size;omega) (fun v' w' h1 h2 h3=>⟨⟨P3.ext hE,HGR.out _ _ h2⟩,h1,fun g hg=>(h3 g hg).imp_right fun h=>by have:=hE.size;omega⟩)
   ·intro f w4 hG hp hl;have hS:w3.heap.size≤w4.heap.size:=hG.2.2.2.1
    have q10:f 0= .pointer (some ⟨p,0,none⟩):=tellM hp 0 0 rfl rfl
    simp only[OpGoal];go_simp;exact⟨_,rfl,Ext.refl _,rfl⟩
   ·intro f w4 hG hp hl;have hS:w3.heap.size≤w4.heap.size:=hG.2.2.2.1
    have q18:f 8= .pointer (some ⟨p,0,none⟩):=tellM hp 0 8 rfl rfl
    simp only[OpGoal];go_simp;exact⟨_,rfl,Ext.refl _,rfl⟩
   ·intro f w4 hG hp hl;have hS:w3.heap.size≤w4.heap.size:=hG.2.2.2.1
    have q19:f 9= .pointer (some ⟨p,1,none⟩):=tellM hp 0 9 rfl rfl
    intro hI hU
    have q19:f 9= .pointer (some ⟨p,1,none⟩):=tellM hp 0 9 rfl rfl
    have q17:=tellMS hp 1 7 rfl (show smAt _ 7=some (stA w.heap.size gA p (.int .i64 (ordV best)) (.slice ad n cap) B n _ 7)from rfl);obtain⟨ad',cap',hv'⟩:=ownsRow_len q17.1;have hPw:Bx 58 w4 p #[.int .i64 (ordV best),.slice ad n cap]:=(show w4.heap[p]? =w3.heap[p]? from hU).trans P3;have hcl:=hPw.cell 1;have hfr:=hPw.free 1;change OpGoal _ _ _ f w4 _ _;have HQ:=Lib.hid q17;clear q17;simp only[OpGoal];go_simp;exact⟨undef,rfl,⟨⟨_,hPw⟩,Chg.setCell _ _ _ _⟩,_,hPw.set 1 _,ownsRow_chg (hv'▸HQ.out.1) (Chg.setCell _ _ _ _) hPw (by decide),hv'▸HQ.out.2⟩
  ·intro f w4 hC hF hp;clear hp;obtain⟨v5,hP4,hO4,hW4⟩:=hF
   have hO4':w4.ownsRow B 38 5 v5 (n+1) (flat (vs++ [.agg #[.int .i64 x.id,.int .i64 x.depth,.bool b3,.slice ad3 l3 cap3,.slice bd3 m3 dap3]])):=by
    rw[flat_append];exact hO4
   have hfv:Five (vs++ [Value.agg #[.int .i64 x.id,.int .i64 x.depth,.bool b3,.slice ad3 l3 cap3,.slice bd3 m3 dap3]]):=by
    intro u hu
    rcases List.mem_append.1 hu with hu |hu
    ·exact H5.out u hu
    ·exact HV.out.five u hu
   have hlv:(vs++ [Value.agg #[.int .i64 x.id,.int .i64 x.depth,.bool b3,.slice ad3 l3 cap3,.slice bd3 m3 dap3]]).length=n+1:=by
    rw[List.length_append,HVl.out,HN.out]
    rfl
   obtain⟨g5,cap5,rest5,rfl,hB5,hc5,hm5,hl5,hold⟩:=ownsRow_hold hO4' hfv hlv
   have hbt:∀g∈ [gA,p],∃t cs,Bx t w3 g cs∧t≠61:=by
    intro g hg;simp only[List.mem_cons,List.not_mem_nil,or_false]at hg
    rcases hg with rfl |rfl
    ·obtain⟨cs,h⟩:=HGA.out;exact⟨_,cs,h,by decide⟩
    ·exact⟨_,_,P3,by decide⟩
   have HNds:=Lib.hid (show Nds B k g5 rest5 w4 (vs++ [.agg #[.int .i64 x.id,.int .i64 x.depth,.bool b3,.slice ad3 l3 cap3,.slice bd3 m3 dap3]]) (d.push x)from by
    refine⟨by rw[hlv,Array.size_push,HN.out],hold,fun i v hi=> ?_⟩;have hvd:=HVl.out
    by_cases hin:i<vs.length
    ·rw[List.getElem?_append_left hin]at hi;have hnd:=HNd.out i v hi
     have hget:(d.push x)[i]! =d[i]! :=by
      rw[getElem!_pos _ i (by rw[Array.size_push];omega),getElem!_pos d i (by omega),Array.getElem_push_lt (by omega)]
     rw[hget];exact(hnd.ext E3').chgB hC hbt
    ·have hil:=(List.getElem?_eq_some_iff.1 hi).1;rw[hlv]at hil
     have hie:i=vs.length:=by have:=HN.out;omega
     subst hie;rw[List.getElem?_concat_length]at hi
     cases hi
     have hget:(d.push x)[vs.length]! =x:=by
      rw[getElem!_pos _ vs.length (by rw[Array.size_push];omega)];simp only[hvd,Array.getElem_push_eq]
     rw[hget]
     exact HV.out.chgB hC hbt)
   have HUp:=Lib.hid (show UpInv best (d.push x) n by rw[HN.out];exact UpInv.start HHh.out)
   have HC:=Lib.hid (show ChgS (p::blks (.slice ad n cap)) w w4 from(E3'.chgS _).more hC (fun g hg=>by
    simp only[List.mem_cons,List.not_mem_nil,or_false]at hg
    rcases hg with rfl |rfl
    ·exact hgb.imp_left (List.mem_cons_of_mem _)
    ·exact .inl (List.mem_cons_self ..)))
   have HP4:=Lib.hid hP4;have HW4:=Lib.hid (hW4 g5 rfl);have hcl:=hP4.cell 1;clear hO4 hO4' hfv hold hbt hC P3 hP4 hW4;go_wp2
   go_step3
   simp only[Exit.then]
   rename_i hK
   refine hK _ _ ?_;exact Hpass.out _ _ (PushJ.mk _ _ _ _ _ _ _ _ _ _ _ _ _ _ _ _ _ _ _ _ _ _ _ _ _ _ _ _ _ _ _ _ _ _ _ _ _ _ _ _ _ _ _ _ _ _ _ _ _ _ _ _ _ _ _ _ _ _ _ _ _ _ _ _ _ _ _ _ _ _ _ _ _ _ ⟨by omega,Lib.hid ⟨HNds.out,HUp.out,List.Perm.refl _,by rw[Array.size_push,HN.out],HC.out,HP4.out,hc5,hm5,hl5,hB5,HW4.out⟩⟩)
theorem rqofR_calls(v:Value)(q:Rat)(k:Nat)(w:World)(hv:IsR w v q k)(hk:k≤1000):
  Calls Tryz.prog 27 #[v] w fun e w'=>∃v',e= .returned v'∧FrQd w.heap.size w' v' q∧Ext w w':=by
 obtain⟨n,d,h1,rfl,h2,h3⟩:=hv;have a1:=szTK_le n.natAbs;have a2:=szTK_le d;have b1:sz W n.natAbs≤k:=h2;exact rqof3_calls _ _ _ _ h1 (by show sz TK n.natAbs≤_;omega) (by omega)
theorem IsR.szD{w:World}{v:Value}{q:Rat}{k:Nat}(h:IsR w v q k):szD q≤5*k:=by
 have h1:=h.sz;have a1:=szTK_le q.num.natAbs;have a2:=szTK_le q.den;unfold szQ szZ at h1;unfold Go.Proofs.YthoibjnkhkjnjaaGreat.szD szT
 omega
theorem qnew_calls(best:Bool)(w:World):
  Calls Tryz.prog 5 #[.int .i64 (ordV best)] w fun e w'=>e= .returned (.tuple #[.pointer (some ⟨w.heap.size,0,none⟩),.int .i64 0])∧Bx 58 w' w.heap.size #[.int .i64 (ordV best),.slice none 0 0]∧Ext w w':=by
 obtain⟨w1,hw1,e1,b1,s1⟩:=alloc1 w #[.int .i64 (ordV best),.slice none 0 0] 58
 cases best with
 |true=>
  have hq:ordV true=0:=rfl
  rw[hq]at*
  go_enter Tryz.func5,Tryz.ntmps5
  go_wp2
  go_ret2
  refine⟨rfl,?_,?_⟩
  ·exact hw1▸b1
  ·exact hw1▸e1
 |false=>
  have hq:ordV false=1:=rfl
  rw[hq]at*
  go_enter Tryz.func5,Tryz.ntmps5
  go_wp2
  go_ret2
  refine⟨rfl,?_,?_⟩
  ·exact hw1▸b1
  ·exact hw1▸e1
theorem qnew_bad(o:Int)(w:World)(h0:¬o=0)(h1:¬o=1):
  Calls Tryz.prog 5 #[.int .i64 o] w fun e w'=>e= .returned (.tuple #[.pointer none,.int .i64 2])∧Ext w w':=by
 have hb0:(o !=0)=true:=by simp[h0]
 have hb1:(o !=1)=true:=by simp[h1]
 go_enter Tryz.func5,Tryz.ntmps5
 go_wp2
 go_ret2
 exact⟨rfl,Ext.refl _⟩
theorem qlen_calls(p:Nat)(o:Value)(ad:Option Addr)(n cap:Nat)(w:World)(hp:Bx 58 w p #[o,.slice ad n cap]):
  Calls Tryz.prog 19 #[.pointer (some ⟨p,0,none⟩)] w fun e w'=>e= .returned (.int .i64 (n:Int))∧Ext w w':=by
 have hc:=hp.cell 1
 go_enter Tryz.func19,Tryz.ntmps19
 go_wp2;go_ret;exact⟨rfl,Ext.refl _⟩
theorem rless_calls(x y:Int)(w:World):
  Calls Tryz.prog 47 #[.int .i64 x,.int .i64 y] w fun e w'=>e= .returned (.int .i64 (cmpI x y))∧Ext w w':=by
 rcases(show x<y∨x=y∨y<x by omega)with h |h |h
 ·have hr:cmpI x y= -1:=by unfold cmpI Lib.compareInt;rw[if_pos h]
  rw[hr]
  go_enter Tryz.func47,Tryz.ntmps47
  go_wp2;go_ret;exact⟨rfl,Ext.refl _⟩
 ·subst h
  have hr:cmpI x x=0:=by unfold cmpI Lib.compareInt;rw[if_neg (by omega),if_neg (by omega)]
  rw[hr]
  go_enter Tryz.func47,Tryz.ntmps47
  go_wp2;go_ret;exact⟨rfl,Ext.refl _⟩
 ·have hr:cmpI x y=1:=by unfold cmpI Lib.compareInt;rw[if_neg (by omega),if_pos h]
  rw[hr]
  have h2:¬x<y:=by omega
  go_enter Tryz.func47,Tryz.ntmps47
  go_wp2;go_ret;exact⟨rfl,Ext.refl _⟩
theorem rahead_calls(best:Bool)(va vb:Value)(a b:Nd)(k:Nat)(w:World)(ha:NdR k w va a)(hb:NdR k w vb b)(hk:k≤1000):
  Calls Tryz.prog 28 #[.int .i64 (ordV best),va,vb] w fun e w'=>e= .returned (.bool (decide (Lt best a b)))∧Ext w w':=by
 obtain⟨c1,a1,n1,k1,a2,n2,k2,rfl,ra⟩:=ha;obtain⟨c2,a3,n3,k3,a4,n4,k4,rfl,rb⟩:=hb;have Ra:=Lib.hid ra;have Rb:=Lib.hid rb;have hbest:=or3_best a b;have hdeep:=or3_deep a b;obtain⟨x,hx⟩:∃x,x=cmpQ a.q b.q:=⟨_,rfl⟩;obtain⟨y,hy⟩:∃y,y=cmpI b.depth a.depth:=⟨_,rfl⟩;obtain⟨z,hz⟩:∃z,z=decide (a.id<b.id):=⟨_,rfl⟩
 have hzz:cmpI a.id b.id<0↔z=true:=by
  rw[hz,decide_eq_true_eq];unfold cmpI Lib.compareInt
  split
  ·simp;omega
  ·split<;>simp<;>omega
 unfold or3 at hbest hdeep;rw[←hx,←hy]at hbest hdeep;have Hx:=Lib.hid hx.symm;have Hy:=Lib.hid hy.symm;have Hz:=Lib.hid hz.symm;obtain⟨i1,d1,q1⟩:=a;obtain⟨i2,d2,q2⟩:=b;obtain⟨r,hr⟩:∃r,r=decide (Lt best ⟨i1,d1,q1⟩ ⟨i2,d2,q2⟩):=⟨_,rfl⟩;rw[←hr]
 have Hres:=Lib.hid (show∀(u v:Int),(u=if best then x else y)→(v=if best then y else x)→r=if u≠0 then decide (u<0)else if v≠0 then decide (v<0)else z from by
  intro u v hu hv
  cases best with
  |true=>
   simp only[if_true]at hu hv;subst hu hv;rw[hr]
   by_cases h1:u=0
   ·by_cases h2:v=0
    ·rw[if_neg (by simp[h1]),if_neg (by simp[h2])];rw[if_neg (by simp[h1]),if_neg (by simp[h2])]at hbest
     cases z with
     |true=>exact decide_eq_true (hbest.1 (hzz.2 rfl))
     |false=>exact decide_eq_false fun h=>by have:=hzz.1 (hbest.2 h);cases this
    ·rw[if_neg (by simp[h1]),if_pos h2];rw[if_neg (by simp[h1]),if_pos h2]at hbest;exact decide_eq_decide.2 hbest.symm
   ·rw[if_pos h1];rw[if_pos h1]at hbest;exact decide_eq_decide.2 hbest.symm
  |false=>
   simp only[Bool.false_eq_true,if_false]at hu hv;subst hu hv;rw[hr]
   by_cases h1:u=0
   ·by_cases h2:v=0
    ·rw[if_neg (by simp[h1]),if_neg (by simp[h2])];rw[if_neg (by simp[h1]),if_neg (by simp[h2])]at hdeep
     cases z with
     |true=>exact decide_eq_true (hdeep.1 (hzz.2 rfl))
     |false=>exact decide_eq_false fun h=>by have:=hzz.1 (hdeep.2 h);cases this
    ·rw[if_neg (by simp[h1]),if_pos h2];rw[if_neg (by simp[h1]),if_pos h2]at hdeep;exact decide_eq_decide.2 hdeep.symm
   ·rw[if_pos h1];rw[if_pos h1]at hdeep
    exact decide_eq_decide.2 hdeep.symm)
 have sa:=ra.szD;have sb:=rb.szD;clear ra rb hx hy hz hbest hdeep hzz hr
 go_enter Tryz.func28,Tryz.ntmps28
 obtain⟨w1,hw1,e1,b1,b2,s1⟩:=alloc2 w #[.int .i64 i1,.int .i64 d1,.bool c1,.slice a1 n1 k1,.slice a2 n2 k2] #[.int .i64 i2,.int .i64 d2,.bool c2,.slice a3 n3 k3,.slice a4 n4 k4] 38 38;go_wp2_with fail;rw[←hw1];refine wpQ [PP.val (.pointer (some ⟨w.heap.size,2,none⟩)),PP.val (.agg #[.bool c1,.slice a1 n1 k1,.slice a2 n2 k2]),PP.frQd q1,PP.val (.pointer (some ⟨(w.heap.size+1),2,none⟩)),PP.val (.agg #[.bool c2,.slice a3 n3 k3,.slice a4 n4 k4]),PP.frQd q2,PP.val (.int .i64 x),PP.val (.pointer (some ⟨(w.heap.size+1),1,none⟩)),PP.val (.int .i64 d2),PP.val (.pointer (some ⟨w.heap.size,1,none⟩)),PP.val (.int .i64 d1),PP.val (.int .i64 y),PP.val (.int .i64 x),PP.val (.int .i64 y)] [] [0,1,2,3,4,5,6,7,8,9,10,11,12,13] ?_ ?_
 ·refine⟨?_,?_,?_,?_,?_,?_,?_,?_,?_,?_,?_,?_,?_,?_,trivial⟩
  ·intro f w2 hG hp hl;simp only[OpGoal];go_simp;exact⟨_,rfl,Ext.refl _,rfl⟩
  ·intro f w2 hG hp hl;have hE:Ext w1 w2:=hG;have q10:=tE hp 0 0 rfl rfl rfl;have hbx:=b1.ext hE;have hcell0:=hbx.cell 0;have hcell1:=hbx.cell 1;have hcell2:=hbx.cell 2;have hcell3:=hbx.cell 3;have hcell4:=hbx.cell 4;simp only[OpGoal];go_simp;exact⟨_,rfl,Ext.refl _,rfl⟩
  ·intro f w2 hG hp hl;have hE:Ext w1 w2:=hG;have hS:=hE.size;have q11:=tE hp 0 1 rfl rfl rfl;change OpGoal _ _ _ f w2 Ext _;refine oC #[f 1] Tryz.func27 rfl rfl ?_;rw[q11];refine(rqofR_calls _ _ _ _ (Ra.out.ext (e1.trans hE)) hk).mono ?_;rintro e w' ⟨v',rfl,h1,h2⟩;exact⟨v',rfl,h2,h1.mono hS⟩
  ·intro f w2 hG hp hl;simp only[OpGoal];go_simp;exact⟨_,rfl,Ext.refl _,rfl⟩
  ·intro f w2 hG hp hl;have hE:Ext w1 w2:=hG;have q13:=tE hp 0 3 rfl rfl rfl;have hbx:=b2.ext hE;have hcell0:=hbx.cell 0;have hcell1:=hbx.cell 1;have hcell2:=hbx.cell 2;have hcell3:=hbx.cell 3;have hcell4:=hbx.cell 4;simp only[OpGoal];go_simp;exact⟨_,rfl,Ext.refl _,rfl⟩
  ·intro f w2 hG hp hl;have hE:Ext w1 w2:=hG;have hS:=hE.size;have q14:=tE hp 0 4 rfl rfl rfl;change OpGoal _ _ _ f w2 Ext _;refine oC #[f 4] Tryz.func27 rfl rfl ?_;rw[q14];refine(rqofR_calls _ _ _ _ (Rb.out.ext (e1.trans hE)) hk).mono ?_;rintro e w' ⟨v',rfl,h1,h2⟩;exact⟨v',rfl,h2,h1.mono hS⟩
  ·intro f w2 hG hp hl;have hE:Ext w1 w2:=hG;have hS:=hE.size;have q12:=tellV hp 0 2 rfl rfl (fun _=>hE);have q15:=tellV hp 1 5 rfl rfl (fun _=>hE);change OpGoal _ _ _ f w2 Ext _;refine oC #[f 2,f 5] Tryz.func32 rfl rfl ?_;refine(rqcmp3_calls _ _ q1 q2 (5*k) (5*k) _ q12.cq q15.cq sa sb (by omega)).mono ?_;rw[←cmpQ_eq,Hx.out];rintro e w' ⟨rfl,h2⟩;exact⟨_,rfl,h2,rfl⟩
  ·intro f w2 hG hp hl;simp only[OpGoal];go_simp;exact⟨_,rfl,Ext.refl _,rfl⟩
  ·intro f w2 hG hp hl;have hE:Ext w1 w2:=hG;have q17:=tE hp 0 7 rfl rfl rfl;have hcell:=(b2.ext hE).cell 1;simp only[OpGoal];go_simp;exact⟨_,rfl,Ext.refl _,rfl⟩
  ·intro f w2 hG hp hl;simp only[OpGoal];go_simp;exact⟨_,rfl,Ext.refl _,rfl⟩
  ·intro f w2 hG hp hl;have hE:Ext w1 w2:=hG;have q19:=tE hp 0 9 rfl rfl rfl;have hcell:=(b1.ext hE).cell 1;simp only[OpGoal];go_simp;exact⟨_,rfl,Ext.refl _,rfl⟩
  ·intro f w2 hG hp hl;have q18:=tE hp 0 8 rfl rfl rfl;have q20:=tE hp 1 10 rfl rfl rfl;change OpGoal _ _ _ f w2 Ext _;refine oC #[f 8,f 10] Tryz.func47 rfl rfl ?_;rw[q18,q20];refine(rless_calls d2 d1 _).mono ?_;rintro e w' ⟨rfl,h2⟩;exact⟨_,rfl,h2,congrArg (Value.int .i64) Hy.out⟩
  ·intro f w2 hG hp hl;have q16:=tE hp 0 6 rfl rfl rfl;simp only[OpGoal];go_simp;exact⟨_,rfl,Ext.refl _,rfl⟩
  ·intro f w2 hG hp hl;have q21:=tE hp 0 11 rfl rfl rfl;simp only[OpGoal];go_simp;exact⟨_,rfl,Ext.refl _,rfl⟩
 ·intro f w2 hG hp;have hE:Ext w1 w2:=ChgS.nil hG
  have q7:f 12= .int .i64 x:=endV hp 12 (by decide) rfl (fun h=>by cases h)
  try simp only[q7]
  have q8:f 13= .int .i64 y:=endV hp 13 (by decide) rfl (fun h=>by cases h)
  try simp only[q8]
  clear hp;have B1:=b1.ext hE;have B2:=b2.ext hE;have E2:=e1.trans hE;have hc0:=B1.cell 0;have hd0:=B2.cell 0
  cases best with
  |true=>
   have hq:ordV true=0:=rfl
   rw[hq];have hfin:=Lib.hid (Hres.out x y rfl rfl)
   by_cases h1:x=0
   ·by_cases h2:y=0
    ·have hfin:=Lib.hid (show r=z by rw[hfin.out,if_neg (by simp[h1]),if_neg (by simp[h2])]);go_wp2;go_ret;exact⟨by rw[hfin.out,←Hz.out];rfl,E2⟩
    ·have hfin:=Lib.hid (show r=decide (y<0)by rw[hfin.out,if_neg (by simp[h1]),if_pos h2]);go_wp2;go_ret;exact⟨by rw[hfin.out];rfl,E2⟩
   ·have hfin:=Lib.hid (show r=decide (x<0)by rw[hfin.out,if_pos h1]);go_wp2;go_ret;exact⟨by rw[hfin.out];rfl,E2⟩
  |false=>
   have hq:ordV false=1:=rfl
   rw[hq];have hfin:=Lib.hid (Hres.out y x rfl rfl)
   by_cases h1:y=0
   ·by_cases h2:x=0
    ·have hfin:=Lib.hid (show r=z by rw[hfin.out,if_neg (by simp[h1]),if_neg (by simp[h2])]);go_wp2;go_ret;exact⟨by rw[hfin.out,←Hz.out];rfl,E2⟩
    ·have hfin:=Lib.hid (show r=decide (x<0)by rw[hfin.out,if_neg (by simp[h1]),if_pos h2]);go_wp2;go_ret;exact⟨by rw[hfin.out];rfl,E2⟩
   ·have hfin:=Lib.hid (show r=decide (y<0)by rw[hfin.out,if_pos h1]);go_wp2;go_ret;exact⟨by rw[hfin.out];rfl,E2⟩
theorem whole20_calls(n:Int)(w:World)(h0: -9223372036854775808≤n)(h1:n≤9223372036854775807):
  Calls Tryz.prog 21 #[.int .i64 n] w fun e w'=>∃v',e= .returned v'∧FrQ w.heap.size w' v' (n:Rat)∧Ext w w':=by
 have sn:=szD_int n;have tn:=szT_small (z:=n) (by omega)
 go_enter Tryz.func21,Tryz.ntmps21
 obtain⟨w1,hw1,e1,b1,s1⟩:=alloc1 w #[.bool false,.slice none 0 0,.slice none 0 0] 36;go_wp2_with fail;rw[←hw1];refine(rqsmall3_calls n _ h0 h1).mono ?_;rintro e w2 ⟨v2,rfl,q2,e2⟩;go_wp2_with fail;refine(rqto3_calls _ (n:Rat) _ q2.cq (by omega)).mono ?_;rintro e w5 ⟨v5,rfl,q5,e5⟩;obtain⟨s',t',rfl,hn,hm⟩:=q5;obtain⟨ad5,cap5,rfl⟩:=hn.slice;obtain⟨ad6,cap6,rfl⟩:=hm.slice;have Hn5:=Lib.hid hn;have Hm5:=Lib.hid hm;have E25:=e2.trans e5;have hsz:=e2.size;clear hn hm;have hb:=b1.ext E25;have hc0:=hb.cell 0;have hc1:=hb.cell 1;have hc2:=hb.cell 2;have hf0:=hb.free 0;have hf1:=hb.free 1;have hf2:=hb.free 2;go_wp2;refine ret_box 2 36 w.heap.size 36 _ _ (by kernel_rfl) rfl (((hb.set 0 _).set 1 _).set 2 _) Tryz.underlying36 rfl (by kernel_rfl) rfl ?_;exact⟨_,rfl,⟨_,_,rfl,(Hn5.out.chg (Chg.trans (Chg.trans (Chg.setCell _ w.heap.size 0 _) (Chg.setCell _ w.heap.size 1 _)) (Chg.setCell _ w.heap.size 2 _)) (by omega)).mono (by omega),(Hm5.out.chg (Chg.trans (Chg.trans (Chg.setCell _ w.heap.size 0 _) (Chg.setCell _ w.heap.size 1 _)) (Chg.setCell _ w.heap.size 2 _)) (by omega)).mono (by omega)⟩,(e1.trans E25).step (Chg.trans (Chg.trans (Chg.setCell _ w.heap.size 0 _) (Chg.setCell _ w.heap.size 1 _)) (Chg.setCell _ w.heap.size 2 _)) (by omega)⟩
end Go.Proofs.YthoibjnkhkjnjaaGreat
