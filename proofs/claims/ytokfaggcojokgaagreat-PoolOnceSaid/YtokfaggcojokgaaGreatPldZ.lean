/-
 Pools: what one keeps in memory; an empty one, how many cuts, whether two are alike, which cut is such.
-/
import Derived.Test.YtokfaggcojokgaaGreatPlaZ
import Derived.Test.YtokfaggcojokgaaGreatCnlZ
import Derived.Test.YtokfaggcojokgaaGreatCngZ
import Derived.Test.YtokfaggcojokgaaGreatCnsZ
namespace Go.Proofs.YtokfaggcojokgaaGreat
set_option maxRecDepth 100000
set_option maxHeartbeats 1000000
open Go.RowKit
set_option linter.unusedVariables false
set_option linter.unusedSimpArgs false
theorem ownsRow_chgP{B e size n g:Nat}{w w':World}{v:Value}{xs:List Value}{t:TypeId}{cs:Array Value}(h:w.ownsRow B e size v n xs)(he:Chg g w w')(hp:Bx t w g cs)(ht:t≠e):w'.ownsRow B e size v n xs:=by
 refine⟨h.1,?_⟩
 rcases h.2 with h2 |⟨g',cap,cur,h1,h2,h3,h4⟩
 ·exact .inl h2
 ·refine .inr ⟨g',cap,cur,h1,h2,he.blk h3 ?_,h4⟩;rintro rfl;unfold Bx at hp;rw[h3]at hp;simp only[Option.some.injEq,Obj.cells.injEq]at hp;exact ht hp.2.1.symm
theorem ownsRow_lenP{B e size n:Nat}{w:World}{v:Value}{xs:List Value}(h:w.ownsRow B e size v n xs):∃ad cap,v= .slice ad n cap:=by
 rcases h.2 with⟨h1,h2⟩ |⟨g,cap,cur,h1, -⟩
 ·exact⟨none,0,by rw[h1,h2]⟩
 ·exact⟨_,cap,h1⟩
def stAP(S gA p:Nat)(ord hv:Value)(B n:Nat)(xs:List Value)(s:Nat):Sm:=
 ⟨s,gA,fun a _=>Bx 155 a p #[ord,hv],fun w b=>b.heap[gA]? =w.heap[gA]?,fun v b=>b.ownsRow B 158 6 v (n+1) xs∧∀g,v.ownBlock=some g→hv.ownBlock=some g∨S≤g⟩
def stQP(S p:Nat)(ord hv:Value)(B n:Nat)(xs:List Value)(s:Nat):Sm:=
 ⟨s,p,fun a b=>∃c,Bx 155 a p c,fun w b=>b.heap[p]? =w.heap[p]?,fun _ b=>∃v,Bx 155 b p #[ord,v]∧b.ownsRow B 158 6 v (n+1) xs∧∀g,v.ownBlock=some g→hv.ownBlock=some g∨S≤g⟩
theorem wp_region_appP{P:Program}{id:Nat}{l:List Oper}{Q:Exit→Act→World→Prop}{tmps:Array Value}{df:List Deferred}{w:World}{fr:(Nat→Value)→Array Value}
  (S gA p B n s1 s2:Nat) (ord hv:Value) (xs:List Value) (L:List (PP w.heap.size)) (lates:List (Nat×Nat×Nat)) (pre:List Nat)
  (hm:P.follows .mixedOrders=true) (hok:(regOk l.toArray tmps.size&&lateOk l.toArray lates&&([stAP S gA p ord hv B n xs s1,stQP S p ord hv B n xs s2].map (·.s)).all fun s=>ancOk l.toArray [s] (pre.filter (· !=s)))=true)
  (hfr:∀f,fillR l.toArray tmps f=fr f)
  (hss:s1≠s2) (hpa:gA≠p) (hA:gA<w.heap.size) (hp:Bx 155 w p #[ord,hv]) (hvn:∃ad cap,hv= .slice ad n cap) (hL:∀p∈L,p.c=false)
  (hstep:OwesM P fr df w [stAP S gA p ord hv B n xs s1,stQP S p ord hv B n xs s2] (fun _=>True) L lates tmps pre l 0)
  (hend:∀f w1,ChgS [gA,p] w w1→(∃v,Bx 155 w1 p #[ord,v]∧w1.ownsRow B 158 6 v (n+1) xs∧∀g,v.ownBlock=some g→hv.ownBlock=some g∨S≤g)→AllPosts (postM [stAP S gA p ord hv B n xs s1,stQP S p ord hv B n xs s2] L) f w1 l.length 0→Q .normal ⟨fr f,df⟩ w1)
  (hs2:s2<l.length):
  (Code.region id l.toArray true).wp P Q ⟨tmps,df⟩ w:=by
 have hlt:=blk_lt hp
 have hmem:∀x∈ [stAP S gA p ord hv B n xs s1,stQP S p ord hv B n xs s2],x=stAP S gA p ord hv B n xs s1∨x=stQP S p ord hv B n xs s2:=fun x hx=>by simpa using hx
 have hat1:smAt [stAP S gA p ord hv B n xs s1,stQP S p ord hv B n xs s2] s1=some (stAP S gA p ord hv B n xs s1):=by simp[smAt,stAP]
 have hat2:smAt [stAP S gA p ord hv B n xs s1,stQP S p ord hv B n xs s2] s2=some (stQP S p ord hv B n xs s2):=by simp[smAt,stAP,stQP,Ne.symm hss]
 refine wp_region_mut [stAP S gA p ord hv B n xs s1,stQP S p ord hv B n xs s2] (fun _=>True) L lates pre hm hok hfr ?_ ?_ hL trivial (fun _ _ _ _=>trivial) (fun _ _ _ _ _ _ _=>trivial) ?_ ?_ ?_ ?_ ?_ ?_ hstep ?_
 ·intro x hx
  rcases hmem x hx with rfl |rfl
  ·exact hA
  ·exact hlt
 ·intro x hx
  rcases hmem x hx with rfl |rfl
  ·exact hat1
  ·exact hat2
 ·intro x hx v w1 w2 he hF
  rcases hmem x hx with rfl |rfl
  ·exact⟨ownsRow_extI hF.1 he,hF.2⟩
  ·obtain⟨u,h1,h2,h3⟩:=hF;exact⟨u,h1.ext he,ownsRow_extI h2 he,h3⟩
 ·intro x hx y hy hne v w1 w2 hch hR hF
  rcases hmem x hx with rfl |rfl<;>rcases hmem y hy with rfl |rfl
  ·exact absurd rfl hne
  ·obtain⟨c,hc⟩:=hR;exact⟨ownsRow_chgP hF.1 hch hc (by decide),hF.2⟩
  ·obtain⟨u,h1,h2, -⟩:=hF;have h3:Bx 155 w1 p #[ord,hv]:=hR;unfold Bx at h1 h3;rw[h1]at h3;simp only[Option.some.injEq,Obj.cells.injEq,and_true]at h3
   have h4:u=hv:=by
    have:=congrArg Array.toList h3
    simp at this
    exact this
   subst h4;obtain⟨a2,c2,h5⟩:=ownsRow_lenP h2;obtain⟨a3,c3,h6⟩:=hvn;rw[h6]at h5
   simp at h5
  ·exact absurd rfl hne
 ·intro x hx
  rcases hmem x hx with rfl |rfl<;>rfl
 ·intro x hx w1 w2 hs he hU
  rcases hmem x hx with rfl |rfl
  ·exact(he.heap (Nat.lt_of_lt_of_le hA hs)).trans hU
  ·exact(he.heap (Nat.lt_of_lt_of_le hlt hs)).trans hU
 ·intro x hx y hy hne w1 w2 hs hch hR hU
  rcases hmem x hx with rfl |rfl<;>rcases hmem y hy with rfl |rfl
  ·exact absurd rfl hne
  ·exact(hch.heap (Nat.lt_of_lt_of_le hA hs) hpa).trans hU
  ·exact(hch.heap (Nat.lt_of_lt_of_le hlt hs) (Ne.symm hpa)).trans hU
  ·exact absurd rfl hne
 ·intro w1 hG _ hU
  have h1:w1.heap[gA]? =w.heap[gA]? :=hU (stAP S gA p ord hv B n xs s1) (by simp)
  have h2:w1.heap[p]? =w.heap[p]? :=hU (stQP S p ord hv B n xs s2) (by simp)
  refine⟨hG.1,hG.2.1,hG.2.2.1,hG.2.2.2.1,fun j hj _=> ?_⟩
  by_cases hjg:j=gA
  ·rw[hjg];exact h1
  ·by_cases hjp:j=p
   ·rw[hjp];exact h2
   ·exact hG.2.2.2.2 j hj (by simp[stAP,stQP];exact⟨hjg,hjp⟩)
 ·intro f w1 hG _ hp';have hF:=endMS hp' s2 hs2 hat2;exact hend f w1 hG hF hp'
def CtO(B K:Nat)(w:World)(v:Value)(c:CR):Prop:=∃a n cp b a1 n1 c1 a2 n2 c2 age,v= .agg #[.int .i64 c.1,.slice a n cp,.bool b,.slice a1 n1 c1,.slice a2 n2 c2,.int .i64 age]∧TO B K w (.slice a n cp) c.2.1∧FrQ B w (.agg #[.bool b,.slice a1 n1 c1,.slice a2 n2 c2]) c.2.2∧szQ c.2.2≤K
theorem CtO.ext{B K:Nat}{w w':World}{v:Value}{c:CR}(h:CtO B K w v c)(he:Ext w w'):CtO B K w' v c:=by
 obtain⟨a,n,cp,b,a1,n1,c1,a2,n2,c2,age,h1,h2,h3,h4⟩:=h;exact⟨a,n,cp,b,a1,n1,c1,a2,n2,c2,age,h1,h2.ext he,h3.ext he,h4⟩
def CtL(B K:Nat)(w:World)(v:Value)(cs:List CR):Prop:=OL 158 6 B (CtO B K) w v cs
theorem CtL.ext{B K:Nat}{w w':World}{v:Value}{cs:List CR}(h:CtL B K w v cs)(he:Ext w w'):CtL B K w' v cs:=OL.ext h he fun _ _ h=>h.ext he
theorem CtL.at{B K:Nat}{w:World}{v:Value}{cs:List CR}(h:CtL B K w v cs):∃ad m cap,m=cs.length∧v= .slice ad m cap∧m≤9223372036854775807∧∀(i:Nat) (c:CR),cs[i]? =some c→∃g off,ad=some ⟨g,off,none⟩∧∃a n cp b a1 n1 c1 a2 n2 c2 age,
  (∀wz,Ext w wz→wz.cell? ⟨g,off+i*6,none⟩=some (.int .i64 c.1)∧wz.cell? ⟨g,off+i*6+1,none⟩=some (.slice a n cp)∧wz.cell? ⟨g,off+i*6+2,none⟩=some (.bool b)∧wz.cell? ⟨g,off+i*6+3,none⟩=some (.slice a1 n1 c1)∧wz.cell? ⟨g,off+i*6+4,none⟩=some (.slice a2 n2 c2)∧wz.cell? ⟨g,off+i*6+5,none⟩=some (.int .i64 age))∧
  TO B K w (.slice a n cp) c.2.1∧FrQ B w (.agg #[.bool b,.slice a1 n1 c1,.slice a2 n2 c2]) c.2.2∧szQ c.2.2≤K:=by
 obtain⟨ad,m,cap,h1,h2,h3,h4⟩:=(OL.sl h (by omega)).opn;refine⟨ad,m,cap,h1,h2,h3,fun i c hi=> ?_⟩;obtain⟨g,off,k1,xs,k2,k3,a,n,cp,b,a1,n1,c1,a2,n2,c2,age,j1,j2,j3,j4⟩:=h4 i c hi
 cases j1
 exact⟨g,off,k1,a,n,cp,b,a1,n1,c1,a2,n2,c2,age,fun wz hz=>⟨k3 wz hz 0 _ rfl,k3 wz hz 1 _ rfl,k3 wz hz 2 _ rfl,k3 wz hz 3 _ rfl,k3 wz hz 4 _ rfl,k3 wz hz 5 _ rfl⟩,j2,j3,j4⟩
def PoolAt(B K:Nat)(w:World)(g:Nat)(cs:List CR):Prop:=∃pat hv,Bx 155 w g #[.int .i64 pat,hv]∧CtL B K w hv cs∧B≤g
theorem PoolAt.ext{B K g:Nat}{w w':World}{cs:List CR}(h:PoolAt B K w g cs)(he:Ext w w'):PoolAt B K w' g cs:=by
 obtain⟨pat,hv,h1,h2,h3⟩:=h;exact⟨pat,hv,h1.ext he,h2.ext he,h3⟩
theorem pnew_calls(K:Nat)(pat:Int)(w:World):
  Calls Tryz.prog 67 #[.int .i64 pat] w fun e w'=>∃g,e= .returned (.pointer (some ⟨g,0,none⟩))∧PoolAt w.heap.size K w' g []∧Ext w w':=by
 obtain⟨w1,hw1,e1,b1,s1⟩:=alloc1 w #[.int .i64 pat,.slice none 0 0] 155
 go_enter Tryz.func67,Tryz.ntmps67
 go_wp2;rw[←hw1];go_ret;exact⟨w.heap.size,rfl,⟨pat,.slice none 0 0,b1,OL.nil _ _ _ _ _,Nat.le_refl _⟩,e1⟩
theorem plen_calls(B K g:Nat)(w:World)(cs:List CR)(h:PoolAt B K w g cs):
  Calls Tryz.prog 136 #[.pointer (some ⟨g,0,none⟩)] w fun e w'=>e= .returned (.int .i64 (cs.length:Int))∧Ext w w':=by
 obtain⟨pat,hv,hb,hl, -⟩:=h;obtain⟨ad,m,cap,hm,rfl, -⟩:=hl.at;have HM:=Lib.hid hm;clear hm hl;have hc1:=hb.cell 1
 go_enter Tryz.func136,Tryz.ntmps136
 go_wp2;go_ret
 exact⟨by rw[HM.out]<;>rfl,Ext.refl _⟩
def idxF(p:CR→Bool):List CR→Int
 | []=> -1
 |x::cs=>if p x then 0 else(if idxF p cs<0 then -1 else idxF p cs+1)
theorem idxF_none{p:CR→Bool}:∀{cs:List CR},(∀x∈cs,p x=false)→idxF p cs= -1
 | [],_=>rfl
 |x::cs,h=>by
  unfold idxF;rw[h x (List.mem_cons_self ..),idxF_none fun y hy=>h y (List.mem_cons_of_mem _ hy)]
  rfl
theorem idxF_at{p:CR→Bool}:∀{cs:List CR} {i:Nat} {x:CR},(∀y∈cs.take i,p y=false)→cs[i]? =some x→p x=true→idxF p cs=(i:Int)
 |y::cs,0,x,_,hx,hp=>by
  cases hx
  unfold idxF;rw[hp]
  rfl
 |y::cs,i+1,x,h,hx,hp=>by
  have h1:p y=false:=h y (by simp)
  have h2:=idxF_at (p:=p) (cs:=cs) (i:=i) (x:=x) (fun z hz=>h z (by rw[List.take_succ_cons];exact List.mem_cons_of_mem _ hz)) (by simpa using hx) hp;unfold idxF;rw[h1,h2];simp only[Bool.false_eq_true,if_false];rw[if_neg (by omega)]
  omega
theorem idxF_any{p:CR→Bool}:∀{cs:List CR},decide (0≤idxF p cs)=cs.any p
 | []=>rfl
 |x::cs=>by
  have ih:=idxF_any (p:=p) (cs:=cs);unfold idxF;rw[List.any_cons]
  cases hp:p x with
  |true=>rfl
  |false=>
   rw[←ih,Bool.false_or];simp only[Bool.false_eq_true,if_false]
   by_cases h0:idxF p cs<0
   ·rw[if_pos h0,decide_eq_decide];omega
   ·rw[if_neg h0,decide_eq_decide];omega
theorem idxF_P(cs:List CR)(s:CR):idxF (fun x=>likeP x s) cs=idxP cs s:=by
 induction cs with
 |nil=>rfl
 |cons x cs ih=>unfold idxF idxP;rw[ih]
set_option maxHeartbeats 4000000 in
theorem palike_calls(k k2:Nat)(v u:Value)(a b:CR)(w:World)(hv:CnR k w v a)(hu:CnR k2 w u b)(hn:b.2.1.length+a.2.1.length≤1073741824)(hk:(b.2.1.length+a.2.1.length+1)*(k+k2+2)≤34359738000):
  Calls Tryz.prog 147 #[v,u] w fun e w'=>e= .returned (.bool (likeP a b))∧Ext w w':=by
 obtain⟨s,l,x⟩:=a;obtain⟨s2,m,x2⟩:=b
 simp only at hk hn
 have HL:Hid (likeC (s,l,x) (s2,m,x2)=(mkV (m++scV (((-1:Int)):Rat) l)).isEmpty):=Lib.hid (by
  rw[Bool.eq_iff_iff,likeC_iff,List.isEmpty_iff]
  exact(like_ax l m).symm)
 obtain⟨a,n,p,b,a1,n1,c1,a2,n2,c2,rfl,ht,hr⟩:=hv.op;have HT:=Lib.hid ht;have HR:=Lib.hid hr;clear ht hr;obtain⟨ay,ny,py,bby,a1y,n1y,c1y,a2y,n2y,c2y,rfl,hty,hry⟩:=hu.op;have HTy:=Lib.hid hty;have HRy:=Lib.hid hry;clear hty hry
 have lim:68719476736≤LIM:=by rw[LIM_eq];omega
 obtain⟨q,hq⟩:∃q,q=(mkV (m++scV (((-1:Int)):Rat) l)).length:=⟨_,rfl⟩;have HQ:=Lib.hid hq;have HZ:=Lib.hid (len_zero hq);clear hq;obtain⟨w1,hw1,e1,b1_,b2_,s1⟩:=alloc2 w #[.int .i64 s,.slice a n p,.bool b,.slice a1 n1 c1,.slice a2 n2 c2] #[.int .i64 s2,.slice ay ny py,.bool bby,.slice a1y n1y c1y,.slice a2y n2y c2y] 36 36
 go_enter Tryz.func147,Tryz.ntmps147
 go_wp2_with fail;rw[←hw1];clear hw1;obtain⟨ds,hds⟩:∃ds,ds=(s==s2):=⟨_,rfl⟩;have HDS:=Lib.hid hds;clear hds;refine wpQ [PP.val (.pointer (some ⟨w.heap.size,0,none⟩)),PP.val (.int .i64 s),PP.val (.pointer (some ⟨(w.heap.size+1),0,none⟩)),PP.val (.int .i64 s2),PP.val (.bool ds),PP.val (.bool ds),PP.whn ds (PP.frQS (((-1:Int)):Rat) 1),PP.whn ds (PP.val (.pointer (some ⟨w.heap.size,1,none⟩))),PP.whn ds (PP.val (.slice a n p)),PP.whn ds (PP.val (.pointer (some ⟨(w.heap.size+1),1,none⟩))),PP.whn ds (PP.val (.slice ay ny py)),PP.whn ds (PP.tO ((m.length+l.length)*(k+k2+1+1)) (mkV (m++scV (((-1:Int)):Rat) l))),PP.whn ds (PP.val (.int .i64 (q:Int))),PP.whn ds (PP.val (.bool ((q:Int)==0))),PP.val (.bool (ds&&(((q:Int)==0)))),PP.val (.bool (ds&&(((q:Int)==0))))] [] [0,1,2,3,4,5,6,7,8,9,10,11,12,13,14,15] ?_ ?_
 ·refine⟨?_,?_,?_,?_,?_,?_,?_,?_,?_,?_,?_,?_,?_,?_,?_,?_,trivial⟩
  ·intro f w2 hG hp hl;simp only[OpGoal];go_simp;exact⟨_,rfl,Ext.refl _,rfl⟩
  ·intro f w2 hG hp hl;have hE:Ext w1 w2:=hG;have q5:=tE hp 0 0 rfl rfl rfl;have hcell:=(b1_.ext hE).cell 0;simp only[OpGoal];go_simp;exact⟨_,rfl,Ext.refl _,rfl⟩
  ·intro f w2 hG hp hl;simp only[OpGoal];go_simp;exact⟨_,rfl,Ext.refl _,rfl⟩
  ·intro f w2 hG hp hl;have hE:Ext w1 w2:=hG;have q7:=tE hp 0 2 rfl rfl rfl;have hcell:=(b2_.ext hE).cell 0;simp only[OpGoal];go_simp;exact⟨_,rfl,Ext.refl _,rfl⟩
  ·intro f w2 hG hp hl;have q6:=tE hp 0 1 rfl rfl rfl;have q8:=tE hp 1 3 rfl rfl rfl;simp only[OpGoal];go_simp;exact⟨_,rfl,Ext.refl _,by rw[HDS.out];rfl⟩
  ·intro f w2 hG hp hl;have q9:=tE hp 0 4 rfl rfl rfl;simp only[OpGoal];go_simp;exact⟨_,rfl,Ext.refl _,rfl⟩
  ·intro f w2 hG hp hl;have hE:Ext w1 w2:=hG;have hS:=hE.size;have qg:=tellV hp 0 5 rfl rfl (fun h=>by cases h);refine og_when (p:=(PP.frQS (((-1:Int)):Rat) 1:PP _).p) rfl (when_t qg) ?_;intro hg0;clear qg;change OpGoal _ _ _ f w2 Ext _;refine oC #[.int .i64 (-1)] Tryz.func78 rfl rfl ?_;refine(rwhole_calls (-1) _ (by omega) (by omega)).mono ?_;rintro e w' ⟨v',rfl,h1,h2⟩;exact⟨v',rfl,h2,h1.mono hS,szQ_intm1⟩
  ·intro f w2 hG hp hl;have qg:=tellV hp 0 5 rfl rfl (fun h=>by cases h);refine og_when (p:=(PP.val (.pointer (some ⟨w.heap.size,1,none⟩)):PP _).p) rfl (when_t qg) ?_;intro hg0;clear qg;simp only[OpGoal];go_simp;exact⟨_,rfl,Ext.refl _,rfl⟩
  ·intro f w2 hG hp hl;have hE:Ext w1 w2:=hG;have qg:=tellV hp 1 5 rfl rfl (fun h=>by cases h);refine og_when (p:=(PP.val (.slice a n p):PP _).p) rfl (when_t qg) ?_;intro hg0;clear qg
   have q12:f 7= .pointer (some ⟨w.heap.size,1,none⟩):=(tellV hp 0 7 rfl rfl (fun h=>by cases h)).1 hg0
   have hcell:=(b1_.ext hE).cell 1;simp only[OpGoal];go_simp;exact⟨_,rfl,Ext.refl _,rfl⟩
  ·intro f w2 hG hp hl;have qg:=tellV hp 0 5 rfl rfl (fun h=>by cases h);refine og_when (p:=(PP.val (.pointer (some ⟨(w.heap.size+1),1,none⟩)):PP _).p) rfl (when_t qg) ?_;intro hg0;clear qg;simp only[OpGoal];go_simp;exact⟨_,rfl,Ext.refl _,rfl⟩
  ·intro f w2 hG hp hl;have hE:Ext w1 w2:=hG;have qg:=tellV hp 1 5 rfl rfl (fun h=>by cases h);refine og_when (p:=(PP.val (.slice ay ny py):PP _).p) rfl (when_t qg) ?_;intro hg0;clear qg
   have q14:f 9= .pointer (some ⟨(w.heap.size+1),1,none⟩):=(tellV hp 0 9 rfl rfl (fun h=>by cases h)).1 hg0
   have hcell:=(b2_.ext hE).cell 1;simp only[OpGoal];go_simp;exact⟨_,rfl,Ext.refl _,rfl⟩
  ·intro f w2 hG hp hl;have hE:Ext w1 w2:=hG;have hS:=hE.size;have qg:=tellV hp 4 5 rfl rfl (fun h=>by cases h);refine og_when (p:=(PP.tO ((m.length+l.length)*(k+k2+1+1)) (mkV (m++scV (((-1:Int)):Rat) l)):PP _).p) rfl (when_t qg) ?_;intro hg0;clear qg;have q11:=(tellV hp 0 6 rfl rfl (fun _=>hE)).1 hg0
   have q13:f 8= .slice a n p:=(tellV hp 1 8 rfl rfl (fun h=>by cases h)).1 hg0
   have q15:f 10= .slice ay ny py:=(tellV hp 2 10 rfl rfl (fun h=>by cases h)).1 hg0
   change OpGoal _ _ _ f w2 Ext _;refine oC #[f 6,f 8,f 10] Tryz.func81 rfl rfl ?_;rw[q13,q15];refine(vaxpy_calls 1 k k2 (k+k2+1) _ _ _ (((-1:Int)):Rat) l m _ (q11.1.isR q11.2 (by omega)) (HT.out.ext (e1.trans hE)) (HTy.out.ext (e1.trans hE)) (by omega) (by omega) hn hk).mono ?_;rintro e w' ⟨v',rfl,h1,h2⟩;exact⟨v',rfl,h2,h1.mono hS⟩
  ·intro f w2 hG hp hl;have hE:Ext w1 w2:=hG;have qg:=tellV hp 1 5 rfl rfl (fun h=>by cases h);refine og_when (p:=(PP.val (.int .i64 (q:Int)):PP _).p) rfl (when_t qg) ?_;intro hg0;clear qg;have q16:=(tellV hp 0 11 rfl rfl (fun _=>hE)).1 hg0;obtain⟨ad,cap,hv⟩:=TO.val q16;rw[←HQ.out]at hv;simp only[OpGoal];go_simp;exact⟨_,rfl,Ext.refl _,rfl⟩
  ·intro f w2 hG hp hl;have qg:=tellV hp 1 5 rfl rfl (fun h=>by cases h);refine og_when (p:=(PP.val (.bool ((q:Int)==0)):PP _).p) rfl (when_t qg) ?_;intro hg0;clear qg
   have q17:f 12= .int .i64 (q:Int):=(tellV hp 0 12 rfl rfl (fun h=>by cases h)).1 hg0
   simp only[OpGoal];go_simp;exact⟨_,rfl,Ext.refl _,rfl⟩
  ·intro f w2 hG hp hl;have q10:=tE hp 0 5 rfl rfl rfl;have q18:=tellV hp 1 13 rfl rfl (fun h=>by cases h);change OpGoal _ _ _ f w2 Ext _;exact og_pickA (P:=Tryz.prog) _ _ rfl rfl q10 (fun h=>q18.1 (by rw[h])) rfl
  ·intro f w2 hG hp hl;have q19:=tE hp 0 14 rfl rfl rfl;simp only[OpGoal];go_simp;exact⟨_,rfl,Ext.refl _,rfl⟩
 ·intro f w2 hG hp;have hE:Ext w1 w2:=ChgS.nil hG
  have q4:f 15= .bool (ds&&(((q:Int)==0))):=endV hp 15 (by decide) rfl (fun h=>by cases h)
  try simp only[q4]
  clear hp;have X:=e1.trans hE
  have HR:Hid ((ds&&((q:Int)==0))=likeP (s,l,x) (s2,m,x2)):=Lib.hid (by
   unfold likeP;rw[HDS.out,HZ.out,HL.out]
   rfl)
  rw[HR.out];obtain⟨pp,hpp⟩:∃pp,pp=likeP (s,l,x) (s2,m,x2):=⟨_,rfl⟩;rw[←hpp];have HP:=Lib.hid hpp;clear hpp;go_wp2;go_ret
  exact⟨by rw[←HP.out]<;>rfl,X⟩
set_option maxHeartbeats 4000000 in
theorem pdomclo_calls(k N gb:Nat)(c s:CR){ax:Option Addr}{nx px:Nat}{bbx:Bool}{a1x:Option Addr}{n1x c1x:Nat}{a2x:Option Addr}{n2x c2x:Nat}{ay:Option Addr}{ny py:Nat}{bby:Bool}{a1y:Option Addr}{n1y c1y:Nat}{a2y:Option Addr}{n2y c2y:Nat}(age:Int)(w:World)(hv:CnR k w (.agg #[.int .i64 c.1,.slice ax nx px,.bool bbx,.slice a1x n1x c1x,.slice a2x n2x c2x]) c)(hs:CnR k w (.agg #[.int .i64 s.1,.slice ay ny py,.bool bby,.slice a1y n1y c1y,.slice a2y n2y c2y]) s)(hb:Bx 36 w gb #[.int .i64 s.1,.slice ay ny py,.bool bby,.slice a1y n1y c1y,.slice a2y n2y c2y])(hN:c.2.1.length≤N)(hN2:s.2.1.length≤N)(hn:2*N≤1073741824)(hk:(2*N+1)*(2*k+2)≤34359738000):
  Calls Tryz.prog 144 #[.agg #[.int .i64 c.1,.slice ax nx px,.bool bbx,.slice a1x n1x c1x,.slice a2x n2x c2x,.int .i64 age],.pointer (some ⟨gb,0,none⟩)] w fun e w'=>e= .returned (.bool (domC c s))∧Ext w w':=by
 have HV:=Lib.hid hv;have HS:=Lib.hid hs;clear hv hs;obtain⟨w1,hw1,e1,b1_,s1⟩:=alloc1 w #[.int .i64 c.1,.slice ax nx px,.bool bbx,.slice a1x n1x c1x,.slice a2x n2x c2x,.int .i64 age] 158;have hB:=hb.ext e1;have hp0:=b1_.cell 0;have hp1:=b1_.cell 1;have hp2:=b1_.cell 2;have hp3:=b1_.cell 3;have hp4:=b1_.cell 4;have hp5:=b1_.cell 5;have hq0:=hB.cell 0;have hq1:=hB.cell 1;have hq2:=hB.cell 2;have hq3:=hB.cell 3;have hq4:=hB.cell 4;rw[hw1]at hp0 hp1 hp2 hp3 hp4 hp5 hq0 hq1 hq2 hq3 hq4
 go_enter Tryz.func144,Tryz.ntmps144
 go_wp2_with fail;rw[←hw1];clear hp0 hp1 hp2 hp3 hp4 hp5 hq0 hq1 hq2 hq3 hq4;refine(dominates_calls k N _ _ c s w1 (HV.out.ext e1) (HS.out.ext e1) hN hN2 hn hk).mono ?_;rintro e w2 ⟨rfl,e2⟩;obtain⟨r,hr⟩:∃r,r=domC c s:=⟨_,rfl⟩;rw[←hr];have HR:=Lib.hid hr;clear hr;go_wp2;go_ret
 exact⟨by rw[HR.out]<;>rfl,e1.trans e2⟩
set_option maxHeartbeats 4000000 in
theorem plikeclo_calls(k N gb:Nat)(c s:CR){ax:Option Addr}{nx px:Nat}{bbx:Bool}{a1x:Option Addr}{n1x c1x:Nat}{a2x:Option Addr}{n2x c2x:Nat}{ay:Option Addr}{ny py:Nat}{bby:Bool}{a1y:Option Addr}{n1y c1y:Nat}{a2y:Option Addr}{n2y c2y:Nat}(age:Int)(w:World)(hv:CnR k w (.agg #[.int .i64 c.1,.slice ax nx px,.bool bbx,.slice a1x n1x c1x,.slice a2x n2x c2x]) c)(hs:CnR k w (.agg #[.int .i64 s.1,.slice ay ny py,.bool bby,.slice a1y n1y c1y,.slice a2y n2y c2y]) s)(hb:Bx 36 w gb #[.int .i64 s.1,.slice ay ny py,.bool bby,.slice a1y n1y c1y,.slice a2y n2y c2y])(hN:c.2.1.length≤N)(hN2:s.2.1.length≤N)(hn:2*N≤1073741824)(hk:(2*N+1)*(2*k+2)≤34359738000):
  Calls Tryz.prog 146 #[.agg #[.int .i64 c.1,.slice ax nx px,.bool bbx,.slice a1x n1x c1x,.slice a2x n2x c2x,.int .i64 age],.pointer (some ⟨gb,0,none⟩)] w fun e w'=>e= .returned (.bool (likeP c s))∧Ext w w':=by
 have HV:=Lib.hid hv;have HS:=Lib.hid hs;clear hv hs;obtain⟨w1,hw1,e1,b1_,s1⟩:=alloc1 w #[.int .i64 c.1,.slice ax nx px,.bool bbx,.slice a1x n1x c1x,.slice a2x n2x c2x,.int .i64 age] 158;have hB:=hb.ext e1;have hp0:=b1_.cell 0;have hp1:=b1_.cell 1;have hp2:=b1_.cell 2;have hp3:=b1_.cell 3;have hp4:=b1_.cell 4;have hp5:=b1_.cell 5;have hq0:=hB.cell 0;have hq1:=hB.cell 1;have hq2:=hB.cell 2;have hq3:=hB.cell 3;have hq4:=hB.cell 4;rw[hw1]at hp0 hp1 hp2 hp3 hp4 hp5 hq0 hq1 hq2 hq3 hq4
 go_enter Tryz.func146,Tryz.ntmps146
 go_wp2_with fail;rw[←hw1];clear hp0 hp1 hp2 hp3 hp4 hp5 hq0 hq1 hq2 hq3 hq4;refine(palike_calls k k _ _ c s w1 (HV.out.ext e1) (HS.out.ext e1) (by omega) (Nat.le_trans (Nat.mul_le_mul (by omega:s.2.1.length+c.2.1.length+1≤2*N+1) (by omega:k+k+2≤2*k+2)) hk)).mono ?_;rintro e w2 ⟨rfl,e2⟩;obtain⟨r,hr⟩:∃r,r=likeP c s:=⟨_,rfl⟩;rw[←hr];have HR:=Lib.hid hr;clear hr;go_wp2;go_ret
 exact⟨by rw[HR.out]<;>rfl,e1.trans e2⟩
set_option maxHeartbeats 4000000 in
theorem pdomidx_calls(B k N gb:Nat)(v:Value)(cs:List CR)(s:CR){ay:Option Addr}{ny py:Nat}{bby:Bool}{a1y:Option Addr}{n1y c1y:Nat}{a2y:Option Addr}{n2y c2y:Nat}(w:World)(h:CtL B k w v cs)(hs:CnR k w (.agg #[.int .i64 s.1,.slice ay ny py,.bool bby,.slice a1y n1y c1y,.slice a2y n2y c2y]) s)(hb:Bx 36 w gb #[.int .i64 s.1,.slice ay ny py,.bool bby,.slice a1y n1y c1y,.slice a2y n2y c2y])(hN:∀c∈cs,c.2.1.length≤N)(hN2:s.2.1.length≤N)(hn:2*N≤1073741824)(hk:(2*N+1)*(2*k+2)≤34359738000):
  Calls Tryz.prog 145 #[v,.func (.func 144) #[] #[.pointer (some ⟨gb,0,none⟩)]] w fun e w'=>e= .returned (.int .i64 (idxF (fun x=>domC x s) cs))∧Ext w w':=by
 have hkk:2*k+2≤(2*N+1)*(2*k+2):=Nat.le_mul_of_pos_left _ (by omega)
 have hkL:k≤LIM:=by rw[LIM_eq];omega
 have HS:=Lib.hid hs;have HNN:=Lib.hid hN;obtain⟨ad,n,cap,hnl,rfl,hn1,hat⟩:=h.at;have Hn:=Lib.hid hnl;have Hat:=Lib.hid hat;clear hnl hat h hs hN
 go_enter Tryz.func145,Tryz.ntmps145
 go_wp2_with fail
 go_loopw [8] (fun s8 wr=>∃i:Nat,i≤n∧s8= .int .i64 (i:Int)∧Hid (∀x∈cs.take i,domC x s=false)∧Ext w wr) (fun s8 _=>((n:Int) - intOf s8).toNat)
 case atStart=>exact ⟨0,Nat.zero_le _,rfl,Lib.hid (fun x hx=>by simp at hx),Ext.refl _⟩
 case round=>
  obtain⟨i,hi,rfl,hH,hex⟩:=hrel
  rcases Nat.eq_or_lt_of_le hi with hin |hin
  ·subst hin
   have hlt:¬((i:Int)<(i:Int)):=by omega
   have HF:Hid (idxF (fun x=>domC x s) cs= -1):=by
    have:=hH.out
    rw[Hn.out,List.take_length]at this;exact Lib.hid (idxF_none this)
   clear hH;go_wp2;go_ret
   exact⟨by rw[HF.out]<;>rfl,hex⟩
  ·have hlt:(i:Int)<(n:Int):=by omega
   obtain⟨c,hx⟩:∃x,cs[i]? =some x:=⟨_,List.getElem?_eq_getElem (by rw[←Hn.out];exact hin)⟩;obtain⟨g,off,rfl,ax,nx,px,bbx,a1x,n1x,c1x,a2x,n2x,c2x,age,hcell,hT,hQ,hz⟩:=Hat.out i c hx;obtain⟨hc0,hc1,hc2,hc3,hc4,hc5⟩:=hcell wr hex;have HX:=Lib.hid (And.intro hx (take_next hx));have HC:=Lib.hid (show∀w',Ext w w'→CnR k w' (.agg #[.int .i64 c.1,.slice ax nx px,.bool bbx,.slice a1x n1x c1x,.slice a2x n2x c2x]) c from fun w' h=>⟨_,_,_,_,_,_,_,_,_,_,rfl,(hT.ext h).tl hkL,(hQ.ext h).isR hz hkL⟩);have HPC:=Lib.hid (hb.ext hex);have HNc:=Lib.hid (HNN.out c (List.mem_of_getElem? hx));obtain⟨r,hr⟩:∃r:Bool,r=domC c s:=⟨_,rfl⟩;have Hr:=Lib.hid hr.symm;clear hx hT hQ hz hcell hr;go_wp2_with fail;refine(pdomclo_calls k N gb c s age wr (HC.out _ hex) (HS.out.ext hex) HPC.out HNc.out hN2 hn hk).mono ?_;rw[Hr.out];rintro ee w2 ⟨rfl,e2⟩
   cases r with
   |true=>
    have HF:Hid (idxF (fun x=>domC x s) cs=(i:Int)):=Lib.hid (idxF_at hH.out HX.out.1 Hr.out)
    clear hH;go_wp2;go_ret
    exact⟨by rw[HF.out]<;>rfl,hex.trans e2⟩
   |false=>
    have HF:Hid (∀x∈cs.take (i+1),domC x s=false):=Lib.hid fun x hx=>by
     rw[HX.out.2]at hx
     rcases List.mem_append.1 hx with hx |hx
     ·exact hH.out x hx
     ·rw[List.mem_singleton]at hx;subst hx;exact Hr.out
    clear hH;go_wp2;go_roundw
    case rel=>exact ⟨i+1,by omega,congrArg (Value.int .i64) (by omega),HF,hex.trans e2⟩
    case measure=>simp [intOf];omega
set_option maxHeartbeats 4000000 in
theorem plikeidx_calls(B k N gb:Nat)(v:Value)(cs:List CR)(s:CR){ay:Option Addr}{ny py:Nat}{bby:Bool}{a1y:Option Addr}{n1y c1y:Nat}{a2y:Option Addr}{n2y c2y:Nat}(w:World)(h:CtL B k w v cs)(hs:CnR k w (.agg #[.int .i64 s.1,.slice ay ny py,.bool bby,.slice a1y n1y c1y,.slice a2y n2y c2y]) s)(hb:Bx 36 w gb #[.int .i64 s.1,.slice ay ny py,.bool bby,.slice a1y n1y c1y,.slice a2y n2y c2y])(hN:∀c∈cs,c.2.1.length≤N)(hN2:s.2.1.length≤N)(hn:2*N≤1073741824)(hk:(2*N+1)*(2*k+2)≤34359738000):
  Calls Tryz.prog 145 #[v,.func (.func 146) #[] #[.pointer (some ⟨gb,0,none⟩)]] w fun e w'=>e= .returned (.int .i64 (idxF (fun x=>likeP x s) cs))∧Ext w w':=by
 have hkk:2*k+2≤(2*N+1)*(2*k+2):=Nat.le_mul_of_pos_left _ (by omega)
 have hkL:k≤LIM:=by rw[LIM_eq];omega
 have HS:=Lib.hid hs;have HNN:=Lib.hid hN;obtain⟨ad,n,cap,hnl,rfl,hn1,hat⟩:=h.at;have Hn:=Lib.hid hnl;have Hat:=Lib.hid hat;clear hnl hat h hs hN
 go_enter Tryz.func145,Tryz.ntmps145
 go_wp2_with fail
 go_loopw [8] (fun s8 wr=>∃i:Nat,i≤n∧s8= .int .i64 (i:Int)∧Hid (∀x∈cs.take i,likeP x s=false)∧Ext w wr) (fun s8 _=>((n:Int) - intOf s8).toNat)
 case atStart=>exact ⟨0,Nat.zero_le _,rfl,Lib.hid (fun x hx=>by simp at hx),Ext.refl _⟩
 case round=>
  obtain⟨i,hi,rfl,hH,hex⟩:=hrel
  rcases Nat.eq_or_lt_of_le hi with hin |hin
  ·subst hin
   have hlt:¬((i:Int)<(i:Int)):=by omega
   have HF:Hid (idxF (fun x=>likeP x s) cs= -1):=by
    have:=hH.out
    rw[Hn.out,List.take_length]at this;exact Lib.hid (idxF_none this)
   clear hH;go_wp2;go_ret
   exact⟨by rw[HF.out]<;>rfl,hex⟩
  ·have hlt:(i:Int)<(n:Int):=by omega
   obtain⟨c,hx⟩:∃x,cs[i]? =some x:=⟨_,List.getElem?_eq_getElem (by rw[←Hn.out];exact hin)⟩;obtain⟨g,off,rfl,ax,nx,px,bbx,a1x,n1x,c1x,a2x,n2x,c2x,age,hcell,hT,hQ,hz⟩:=Hat.out i c hx;obtain⟨hc0,hc1,hc2,hc3,hc4,hc5⟩:=hcell wr hex;have HX:=Lib.hid (And.intro hx (take_next hx));have HC:=Lib.hid (show∀w',Ext w w'→CnR k w' (.agg #[.int .i64 c.1,.slice ax nx px,.bool bbx,.slice a1x n1x c1x,.slice a2x n2x c2x]) c from fun w' h=>⟨_,_,_,_,_,_,_,_,_,_,rfl,(hT.ext h).tl hkL,(hQ.ext h).isR hz hkL⟩);have HPC:=Lib.hid (hb.ext hex);have HNc:=Lib.hid (HNN.out c (List.mem_of_getElem? hx));obtain⟨r,hr⟩:∃r:Bool,r=likeP c s:=⟨_,rfl⟩;have Hr:=Lib.hid hr.symm;clear hx hT hQ hz hcell hr;go_wp2_with fail;refine(plikeclo_calls k N gb c s age wr (HC.out _ hex) (HS.out.ext hex) HPC.out HNc.out hN2 hn hk).mono ?_;rw[Hr.out];rintro ee w2 ⟨rfl,e2⟩
   cases r with
   |true=>
    have HF:Hid (idxF (fun x=>likeP x s) cs=(i:Int)):=Lib.hid (idxF_at hH.out HX.out.1 Hr.out)
    clear hH;go_wp2;go_ret
    exact⟨by rw[HF.out]<;>rfl,hex.trans e2⟩
   |false=>
    have HF:Hid (∀x∈cs.take (i+1),likeP x s=false):=Lib.hid fun x hx=>by
     rw[HX.out.2]at hx
     rcases List.mem_append.1 hx with hx |hx
     ·exact hH.out x hx
     ·rw[List.mem_singleton]at hx;subst hx;exact Hr.out
    clear hH;go_wp2;go_roundw
    case rel=>exact ⟨i+1,by omega,congrArg (Value.int .i64) (by omega),HF,hex.trans e2⟩
    case measure=>simp [intOf];omega
set_option maxHeartbeats 4000000 in
theorem pdomany_calls(B k N gb:Nat)(v:Value)(cs:List CR)(s:CR){ay:Option Addr}{ny py:Nat}{bby:Bool}{a1y:Option Addr}{n1y c1y:Nat}{a2y:Option Addr}{n2y c2y:Nat}(w:World)(h:CtL B k w v cs)(hs:CnR k w (.agg #[.int .i64 s.1,.slice ay ny py,.bool bby,.slice a1y n1y c1y,.slice a2y n2y c2y]) s)(hb:Bx 36 w gb #[.int .i64 s.1,.slice ay ny py,.bool bby,.slice a1y n1y c1y,.slice a2y n2y c2y])(hN:∀c∈cs,c.2.1.length≤N)(hN2:s.2.1.length≤N)(hn:2*N≤1073741824)(hk:(2*N+1)*(2*k+2)≤34359738000):
  Calls Tryz.prog 143 #[v,.func (.func 144) #[] #[.pointer (some ⟨gb,0,none⟩)]] w fun e w'=>e= .returned (.bool (cs.any fun x=>domC x s))∧Ext w w':=by
 go_enter Tryz.func143,Tryz.ntmps143
 go_wp2_with fail;refine(pdomidx_calls B k N gb v cs s w h hs hb hN hN2 hn hk).mono ?_;rintro e w2 ⟨rfl,e2⟩;have hA:=idxF_any (p:=fun x=>domC x s) (cs:=cs);obtain⟨r,hr⟩:∃r,r=idxF (fun x=>domC x s) cs:=⟨_,rfl⟩;rw[←hr]at hA ⊢;have HA:=Lib.hid hA;clear hA hr h hs hN
 by_cases h0:0≤r
 ·have HB:Hid ((cs.any fun x=>domC x s)=true):=Lib.hid (by rw[←HA.out,decide_eq_true h0])
  go_wp2;go_ret
  exact⟨by rw[HB.out]<;>rfl,e2⟩
 ·have HB:Hid ((cs.any fun x=>domC x s)=false):=Lib.hid (by rw[←HA.out,decide_eq_false h0])
  have hd:decide (0≤r)=false:=decide_eq_false h0
  have hlt:r<0:=by omega
  go_wp2;go_ret
  exact⟨by rw[HB.out]<;>simp [h0],e2⟩
def KeepT(w w':World):Prop:=∀t g cs,(t=172∨t=96)→Bx t w g cs→Bx t w' g cs
theorem ChgS.keepT{bs:List Nat}{w w':World}(h:ChgS bs w w')(hb:∀g∈bs,∃t cs,Bx t w g cs∧t≠172∧t≠96):KeepT w w':=by
 intro t g cs ht hx
 refine hx.chgS h fun hm=> ?_
 obtain⟨t',cs',h1,h2,h3⟩:=hb g hm;unfold Bx at hx h1;rw[hx]at h1;simp only[Option.some.injEq,Obj.cells.injEq,and_true]at h1
 rcases ht with rfl |rfl
 ·exact h2 h1.2.symm
 ·exact h3 h1.2.symm
theorem FrL.keepT{k:IntKind}{B0:Nat}{w w':World}{v:Value}{xs:List Nat}(h:FrL 172 k B0 w v xs)(hk:KeepT w w'):FrL 172 k B0 w' v xs:=by
 obtain⟨ad,cap,h1,h2,h3,h4⟩:=h;refine⟨ad,cap,h1,h2,h3,?_⟩
 rcases h4 with h4 |⟨g',cur,h4,h5,h6,h7⟩
 ·exact .inl h4
 ·exact .inr ⟨g',cur,h4,h5,hk _ _ _ (.inl rfl) h6,h7⟩
theorem FrQ.keepT{B0:Nat}{w w':World}{v:Value}{q:Rat}(h:FrQ B0 w v q)(hk:KeepT w w'):FrQ B0 w' v q:=by
 obtain⟨s,t,hst,hs,ht'⟩:=h;exact⟨s,t,hst,FrL.keepT hs hk,FrL.keepT ht' hk⟩
theorem TO.keepT{B k:Nat}{w w':World}{v:Value}{m:List (Int×Rat)}(h:TO B k w v m)(hk:KeepT w w'):TO B k w' v m:=by
 obtain⟨ts,h1,h2,h3⟩:=h;refine⟨ts,h1,⟨h2.1,h2.2.1,?_⟩,fun i t x ht hx=> ?_⟩
 ·rcases h2.2.2 with h2 |⟨g,cap,cur,j1,j2,j3,j4⟩
  ·exact .inl h2
  ·exact .inr ⟨g,cap,cur,j1,j2,hk _ _ _ (.inr rfl) j3,j4⟩
 ·obtain⟨k1,k2,k3⟩:=h3 i t x ht hx;exact⟨k1,k2.keepT hk,k3⟩
theorem CtO.keepT{B K:Nat}{w w':World}{v:Value}{c:CR}(h:CtO B K w v c)(hk:KeepT w w'):CtO B K w' v c:=by
 obtain⟨a,n,cp,b,a1,n1,c1,a2,n2,c2,age,h1,h2,h3,h4⟩:=h;exact⟨a,n,cp,b,a1,n1,c1,a2,n2,c2,age,h1,h2.keepT hk,h3.keepT hk,h4⟩
theorem Chg.one{g:Nat}{w w':World}(h:Chg g w w'):ChgS [g] w w':=h.chgS (List.mem_singleton.2 rfl)
theorem CtL.put{B K n cap i g:Nat}{w w':World}{cs:List CR}{s:CR}{cur:List Value}{cells:Array Value}(h:CtL B K w (.slice (some ⟨g,0,none⟩) n cap) cs)(hi:i<cs.length)(hcur:Bx 158 w g cur.toArray)(hc:Chg g w w')(h6:cells.size=6)(h1:cells.all (·.oneCell')=true)(hF:Bx 158 w' g (laidS cur (i*6) cells.toList).toArray)(hs:CtO B K w' (.agg cells) s):CtL B K w' (.slice (some ⟨g,0,none⟩) n cap) (cs.set i s):=by
 obtain⟨vs,h2,h3,h4⟩:=h
 have hk:KeepT w w':=hc.one.keepT fun x hx=>by
  rw[List.mem_singleton]at hx;subst hx;exact⟨_,_,hcur,by decide,by decide⟩
 have hu:StrN 6 [Value.agg cells]:=by
  intro v hv;rw[List.mem_singleton]at hv;exact⟨cells,hv,h6,h1⟩
 refine⟨vs.set i (.agg cells),h2.set hu (by omega) rfl fun rest hb=> ?_,by rw[List.length_set,List.length_set,h3],fun j u x hu hx=> ?_⟩
 ·have he:flatS vs++rest=cur:=by
   unfold Bx at hb hcur;rw[hb]at hcur
   simpa using hcur
  rw[he];exact hF
 ·by_cases hij:i=j
  ·subst hij;rw[List.getElem?_set_self (by omega)]at hu;rw[List.getElem?_set_self hi]at hx
   cases hu
   cases hx
   exact hs
  ·rw[List.getElem?_set_ne hij]at hu hx;exact(h4 j u x hu hx).keepT hk
theorem CtL.cur{B K i g:Nat}{w:World}{cs:List CR}{hv:Value}(h:CtL B K w hv cs)(hi:i<cs.length):∃(g cap:Nat) (cur:List Value),hv= .slice (some ⟨g,0,none⟩) cs.length cap∧Bx 158 w g cur.toArray∧cs.length*6≤cur.length∧B≤g:=by
 obtain⟨vs,h2,h3,h4⟩:=h;obtain⟨g',cap',rest,k1,k2,k3,k4,k5,k6⟩:=h2.hold (by omega)
 have hl:(flatS vs).length=vs.length*6:=flatS_len h2.1.size
 exact⟨g',cap',_,by rw[k1,h3],k6,by rw[List.length_append,hl];omega,k2⟩
theorem gA_specP{B n tb g:Nat}{w w3:World}{hv:Value}{xs:List Value}{cs ps:Array Value}(hown:w.ownsRow B 158 6 hv n xs)(hE:Ext w w3)(hb:Bx 36 w3 tb cs)(htb:B≤tb)(hp:Bx 155 w3 g ps):
  ∃gA,(∃t cs,Bx t w3 gA cs∧t≠172∧t≠96)∧(∀wa wb:World,wa.grownBy wb hv.ownBlock→Chg gA wa wb)∧gA≠g∧B≤gA:=by
 have ne:∀{t:TypeId} {x:Nat} {cs:Array Value},Bx t w3 x cs→t≠155→x≠g:=by
  rintro t x cs h1 h2 rfl;unfold Bx at h1 hp;rw[h1]at hp;simp only[Option.some.injEq,Obj.cells.injEq,and_true]at hp;exact h2 hp.2
 rcases hown.2 with⟨h1,h2⟩ |⟨g',cap',cur,h1,h2,h3,h4⟩
 ·cases h1
  exact⟨tb,⟨_,cs,hb,by decide,by decide⟩,fun wa wb h=>Ext.chg tb h,ne hb (by decide),htb⟩
 ·cases h1
  exact⟨g',⟨_,cur,hE.blk h3,by decide,by decide⟩,fun wa wb h=>h,ne (hE.blk h3) (by decide),h2⟩
def PP.oneK{S:Nat}(cs:Array Value):PP S:=⟨false,fun u w=>∃g,S≤g∧u= .slice (some ⟨g,0,none⟩) 1 1∧Bx 158 w g cs,fun _ _ _ h hp=>(let ⟨g,h1,h2,h3⟩:=hp;⟨g,h1,h2,h3.ext h⟩),fun _ _ hg _ _ _ h hp=>(let ⟨g,h1,h2,h3⟩:=hp;⟨g,h1,h2,h3.chg h (by omega)⟩)⟩
theorem all6{a b c d e f:Value}(h0:a.oneCell'=true)(h1:b.oneCell'=true)(h2:c.oneCell'=true)(h3:d.oneCell'=true)(h4:e.oneCell'=true)(h5:f.oneCell'=true):(#[a,b,c,d,e,f]:Array Value).all (·.oneCell')=true:=by simp[h0,h1,h2,h3,h4,h5]
theorem comes_s{cs:List CR}{c:CR}(h:sens c.1=false):comesP cs c=false∧addP cs c=cs:=by
 have h1:comesP cs c=false:=by unfold comesP;rw[h];rfl
 exact⟨h1,by unfold addP;rw[h1];rfl⟩
theorem comes_b{cs:List CR}{c:CR}(h:(scaleC c).2.1=[]):comesP cs c=false∧addP cs c=cs:=by
 have h1:comesP cs c=false:=by unfold comesP;rw[bareC_iff.2 ((scale_empty c).1 h)];simp
 exact⟨h1,by unfold addP;rw[h1];rfl⟩
theorem comes_d{cs:List CR}{c:CR}(h:(cs.any fun x=>domC x (scaleC c))=true):comesP cs c=false∧addP cs c=cs:=by
 have h1:comesP cs c=false:=by unfold comesP;rw[h];simp
 exact⟨h1,by unfold addP;rw[h1];rfl⟩
theorem comes_y{cs:List CR}{c:CR}(hs:sens c.1=true)(hb:(scaleC c).2.1≠ [])(h:(cs.any fun x=>domC x (scaleC c))=false):comesP cs c=true∧addP cs c=putAt cs (scaleC c):=by
 have hbc:bareC c=false:=by
  cases h:bareC c with
  |false=>rfl
  |true=>exact absurd ((scale_empty c).2 (bareC_iff.1 h)) hb
 have h1:comesP cs c=true:=by unfold comesP;rw[hs,hbc,h];rfl
 exact⟨h1,by unfold addP;rw[h1];rfl⟩
set_option maxHeartbeats 32000000 in
theorem padd_calls(B k K N g:Nat)(v:Value)(cs:List CR)(c:CR)(w:World)(h:PoolAt B (2*K) w g cs)(hv:CnR k w v c)(hB:B≤w.heap.size)(hcN:c.2.1.length≤N)(hN:∀x∈cs,x.2.1.length≤N)(hcs:cs.length≤1000)
  (hK:N*(k+1)≤K) (hK2:k≤K) (hK1:1≤K) (hn:2*N≤1073741824) (hk:(2*N+1)*(2*(2*K)+2)≤34359738000):
  Calls Tryz.prog 68 #[.pointer (some ⟨g,0,none⟩),v] w fun e w'=>e= .returned (.bool (comesP cs c))∧PoolAt B (2*K) w' g (addP cs c)∧∀a,Ext a w→a.heap.size≤B→Ext a w':=by
 have HP:=Lib.hid h;have HV:=Lib.hid hv;have HNN:=Lib.hid hN
 have lim:68719476736≤LIM:=by rw[LIM_eq];omega
 have hKb:2*(2*K)+2≤(2*N+1)*(2*(2*K)+2):=Nat.le_mul_of_pos_left _ (by omega);have hK6:c.2.1.length*(k+1)≤K:=Nat.le_trans (Nat.mul_le_mul_right _ hcN) hK;have hK7:(c.2.1.length+1)*(2*K+2)≤34359738000:=Nat.le_trans (Nat.mul_le_mul (by omega) (by omega)) hk
 have hmf:∀(fn:Fn) (first cap:Array Value) (w:World),(Instr.makeFunc fn first cap).run Tryz.prog w= .ok (.func fn first cap) w:=fun _ _ _ _=>rfl
 obtain⟨a,n,p,b,a1,n1,c1,a2,n2,c2,rfl, -, -⟩:=hv;obtain⟨w1,hw1,e1,b1_,s1⟩:=alloc1 w #[.int .i64 c.1,.slice a n p,.bool b,.slice a1 n1 c1,.slice a2 n2 c2] 36;have hb:=b1_;have hb0:=hb.cell 0;have hbf0:=hb.free 0;have hb1:=hb.cell 1;have hbf1:=hb.free 1;have hb2:=hb.cell 2;have hbf2:=hb.free 2;have hb3:=hb.cell 3;have hbf3:=hb.free 3;have hb4:=hb.cell 4;have hbf4:=hb.free 4;rw[hw1]at hb0 hb1 hb2 hb3 hb4 hbf0 hbf1 hbf2 hbf3 hbf4
 go_enter Tryz.func68,Tryz.ntmps68
 clear h hN
 by_cases h1:1≤c.1
 case neg=>
  have HNO:=Lib.hid (comes_s (cs:=cs) (c:=c) (sens_no fun h=>h1 h.1))
  have h1':c.1<1:=by omega
  go_wp2;go_ret
  exact⟨by rw[HNO.out.1]<;>rfl,by rw[HNO.out.2,←hw1];exact HP.out.ext e1,fun a ha hB=>by rw[←hw1];exact ha.trans e1⟩
 by_cases h3:c.1≤3
 case neg=>
  have HNO:=Lib.hid (comes_s (cs:=cs) (c:=c) (sens_no fun h=>h3 h.2))
  have h1':¬c.1<1:=by omega
  have h3':3<c.1:=by omega
  go_wp2;go_ret
  exact⟨by rw[HNO.out.1]<;>rfl,by rw[HNO.out.2,←hw1];exact HP.out.ext e1,fun a ha hB=>by rw[←hw1];exact ha.trans e1⟩
 have HS:Hid (sens c.1=true):=Lib.hid (sens_iff.2 ⟨h1,h3⟩)
 have h1':¬c.1<1:=by omega
 have h3':¬3<c.1:=by omega
 go_wp2_with fail;rw[←hw1];refine(pscale_calls k K _ c w1 (HV.out.ext e1) (by omega) hK6 hK2 hK1 hK7).mono ?_;rintro e w2 ⟨v2,rfl,hs2,e2⟩;obtain⟨a',n',p',b',a1',n1',c1',a2',n2',c2',rfl,ht2,hr2,hz2⟩:=hs2;obtain⟨ad0,cp0,hcv⟩:=ht2.val
 cases hcv
 obtain⟨n',hn'⟩:∃n',n'=(scaleC c).2.1.length:=⟨_,rfl⟩;rw[←hn']at ht2 ⊢;have HLN:=Lib.hid hn';clear hb hb0 hb1 hb2 hb3 hb4 hbf0 hbf1 hbf2 hbf3 hbf4 hw1 hn';have e12:=e1.trans e2;have hb:=b1_.ext e2;have hs12:=e2.size;obtain⟨w3,hw3,c3,S3⟩:=put5 hb (.int .i64 (scaleC c).1) (.slice a' n' p') (.bool b') (.slice a1' n1' c1') (.slice a2' n2' c2');have E3:Ext w w3:=e12.step c3 (Nat.le_refl _);have HT3:=Lib.hid ((ht2.chg c3 (by omega)).mono (show w.heap.size≤_ by omega));have HR3:=Lib.hid ((hr2.chg c3 (by omega)).mono (show w.heap.size≤_ by omega));have HZ:=Lib.hid hz2;have hb0:=hb.cell 0;have hbf0:=hb.free 0;have hb1:=hb.cell 1;have hbf1:=hb.free 1;have hb2:=hb.cell 2;have hbf2:=hb.free 2;have hb3:=hb.cell 3;have hbf3:=hb.free 3;have hb4:=hb.cell 4;have hbf4:=hb.free 4
 go_upto_region 4 with(fail)
 rw[←hw3];clear hb hb0 hb1 hb2 hb3 hb4 hbf0 hbf1 hbf2 hbf3 hbf4 hw3 c3 e1 e2 e12 b1_ ht2 hr2 hz2;have S3':Bx 36 w3 w.heap.size #[.int .i64 c.1,.slice a' n' p',.bool b',.slice a1' n1' c1',.slice a2' n2' c2']:=S3;clear S3;have HCN:=Lib.hid (show∀w',Ext w3 w'→CnR (2*K) w' (.agg #[.int .i64 (scaleC c).1,.slice a' n' p',.bool b',.slice a1' n1' c1',.slice a2' n2' c2']) (scaleC c)from fun w' h=>⟨_,_,_,_,_,_,_,_,_,_,rfl,(HT3.out.ext h).tl (by omega),(HR3.out.ext h).isR HZ.out (by omega)⟩)
 have HLS:Hid ((scaleC c).2.1.length≤N):=Lib.hid (by
  have:=mkV_len c.2.1
  show(scV _ (mkV c.2.1)).length≤N
  unfold scV;rw[List.length_map]
  omega)
 obtain⟨pat,hvl,hG,hL,hBg⟩:=HP.out;have HL3:=Lib.hid (hL.ext E3);have G3:=hG.ext E3;obtain⟨ad,n,cap,hnl,rfl,hn1, -⟩:=hL.at;have HNL:=Lib.hid hnl;have HP2:=HP;clear hG hL hnl;have hb:=S3';have hb0:=hb.cell 0;have hb1:=hb.cell 1;have hb2:=hb.cell 2;have hb3:=hb.cell 3;have hb4:=hb.cell 4;have hg1:=G3.cell 1;have hS3lt:=S3'.lt
 rcases Nat.eq_zero_or_pos n' with h0 |h0
 ·subst h0;have HNO:=Lib.hid (comes_b (cs:=cs) (c:=c) (List.eq_nil_of_length_eq_zero HLN.out.symm))
  have hz:((0:Nat):Int)=0:=rfl
  go_wp2;go_ret
  exact⟨by rw[HNO.out.1]<;>rfl,by rw[HNO.out.2];exact HP.out.ext (E3),fun a ha hB=>ha.trans (E3)⟩
 have hz:¬((n':Int)=0):=by omega
 have hz2:((n':Int)==0)=false:=by simpa using hz
 have HNE:Hid ((scaleC c).2.1≠ []):=Lib.hid (fun h=>by have:=HLN.out;rw[h]at this;simp at this;omega);go_wp2_with fail;refine(pdomany_calls B (2*K) N w.heap.size _ cs (scaleC c) w3 HL3.out (HCN.out _ (Ext.refl _)) S3' HNN.out HLS.out hn hk).mono ?_;rintro e w4 ⟨rfl,e4⟩;obtain⟨r,hr⟩:∃r,r=(cs.any fun x=>domC x (scaleC c)):=⟨_,rfl⟩;rw[←hr];have HR:=Lib.hid hr;clear hr hb hb0 hb1 hb2 hb3 hb4 hg1
 cases r with
 |true=>
  have HNO:=Lib.hid (comes_d (cs:=cs) (c:=c) HR.out.symm);have E4:=E3.trans e4;go_wp2;go_ret
  exact⟨by rw[HNO.out.1]<;>rfl,by rw[HNO.out.2];exact HP.out.ext (E4),fun a ha hB=>ha.trans (E4)⟩
 |false=>
 have HYES:=Lib.hid (comes_y HS.out HNE.out HR.out.symm);have G4:=G3.ext e4;have hg1:=G4.cell 1;go_wp2_with fail;refine(plikeidx_calls B (2*K) N w.heap.size _ cs (scaleC c) w4 (HL3.out.ext e4) (HCN.out _ e4) (S3'.ext e4) HNN.out HLS.out hn hk).mono ?_;rintro e w5 ⟨rfl,e5⟩;rw[idxF_P];have e35:=e4.trans e5;have E5:=E3.trans e35;have G5:=G3.ext e35;have S5:=S3'.ext e35;have HL5:=Lib.hid (HL3.out.ext e35);have HT5:=Lib.hid (HT3.out.ext e35);have HR5:=Lib.hid (HR3.out.ext e35);have hs35:=e35.size;obtain⟨r,hr⟩:∃r,r=idxP cs (scaleC c):=⟨_,rfl⟩;rw[←hr];clear hg1 G4 G3 S3' HL3 HT3 HR3 e4 e5 e35 E3
 by_cases hneg:r<0
 ·have hge:¬0≤r:=by omega
  have hge2:decide (0≤r)=false:=decide_eq_false hge
  have HID:=Lib.hid (idxP_neg (by rw[←hr];exact hneg:idxP cs (scaleC c)<0));clear hr;obtain⟨vs,hLS,hvl,hve⟩:=HL5.out
  have hvn:vs.length=n:=by rw[hvl,HNL.out]
  have hnb:n≤1000:=by rw[HNL.out];exact hcs
  have HO5:=Lib.hid (show w5.ownsRow B 158 6 (.slice ad n cap) n (flatS vs)from by have:=hLS.2;rw[hvn]at this;exact this);have HST:=Lib.hid hLS.1;have HVE:=Lib.hid (And.intro hvl hve);have HVN:=Lib.hid hvn;obtain⟨gA,hgA,hgr,hgAp,hgAB⟩:=gA_specP HO5.out (Ext.refl _) S5 hB G5;have HGA:=Lib.hid hgA;have HGR:=Lib.hid hgr
  have hgAl:gA<w5.heap.size:=by obtain⟨t,cs,h1, -⟩:=hgA;exact h1.lt
  clear hLS hvl hve hvn hgA hgr;go_wp2_with fail
  refine wp_region_appP B gA g B n 8 11 (.int .i64 pat) (.slice ad n cap) (flatS vs++ [.int .i64 c.1,.slice a' n' p',.bool b',.slice a1' n1' c1',.slice a2' n2' c2',.int .i64 0]) [PP.val (.pointer (some ⟨g,0,none⟩)),PP.val (.pointer (some ⟨g,0,none⟩)),PP.val (.pointer (some ⟨g,0,none⟩)),PP.val (.pointer (some ⟨g,1,none⟩)),PP.val (.slice ad n cap),PP.val (.agg #[.int .i64 c.1,.slice a' n' p',.bool b',.slice a1' n1' c1',.slice a2' n2' c2']),PP.val (.agg #[.int .i64 c.1,.slice a' n' p',.bool b',.slice a1' n1' c1',.slice a2' n2' c2',.int .i64 0]),PP.oneK #[.int .i64 c.1,.slice a' n' p',.bool b',.slice a1' n1' c1',.slice a2' n2' c2',.int .i64 0],PP.any,PP.val (.pointer (some ⟨g,0,none⟩)),PP.val (.pointer (some ⟨g,1,none⟩)),PP.any] [] [8,7,6,5,4,3,2,1] (by kernel_rfl) (by kernel_rfl) (fun f=>(by simp only[fillR,fillL,List.setIfInBounds_toArray,List.set_cons_succ,List.set_cons_zero,Nat.reduceAdd];rfl)) (by decide) hgAp hgAl G5 ⟨_,_,rfl⟩ (by intro p hp;simp only[List.mem_cons,List.not_mem_nil,or_false]at hp;rcases hp with rfl |rfl |rfl |rfl |rfl |rfl |rfl |rfl |rfl |rfl |rfl |rfl<;>rfl) ?_ ?_ (by decide)
  ·refine⟨?_,?_,?_,?_,?_,?_,?_,?_,?_,?_,?_,?_,trivial⟩
   ·intro f w4 hG hp hl;have hS:w5.heap.size≤w4.heap.size:=hG.2.2.2.1;simp only[OpGoal];go_simp;exact⟨_,rfl,Ext.refl _,rfl⟩
   ·intro f w4 hG hp hl;simp only[OpGoal];go_simp;exact⟨_,rfl,Ext.refl _,rfl⟩
   ·intro f w4 hG hp hl
    have q45:f 1= .pointer (some ⟨g,0,none⟩):=tellM hp 0 1 rfl rfl
    simp only[OpGoal];go_simp;exact⟨_,rfl,Ext.refl _,rfl⟩
   ·intro f w4 hG hp hl
    have q46:f 2= .pointer (some ⟨g,0,none⟩):=tellM hp 0 2 rfl rfl
    simp only[OpGoal];go_simp;exact⟨_,rfl,Ext.refl _,rfl⟩
   ·intro f w4 hG hp hl;have hE:Ext w5 w4:=hG
    have q47:f 3= .pointer (some ⟨g,1,none⟩):=tellM hp 0 3 rfl rfl
    have hcell:=(G5.ext hE).cell 1;simp only[OpGoal];go_simp;exact⟨_,rfl,Ext.refl _,rfl⟩
   ·intro f w4 hG hp hl;have hE:Ext w5 w4:=hG;change OpGoal _ _ _ f w4 Ext _;exact og_load (P:=Tryz.prog) _ _ w.heap.size _ _ _ rfl rfl rfl (S5.ext hE) Tryz.underlying36 rfl (by kernel_rfl) rfl
   ·intro f w4 hG hp hl
    have q49:f 5= .agg #[.int .i64 c.1,.slice a' n' p',.bool b',.slice a1' n1' c1',.slice a2' n2' c2']:=tellM hp 0 5 rfl rfl
    simp only[OpGoal];go_simp;exact⟨_,rfl,Ext.refl _,rfl⟩
   ·intro f w4 hG hp hl;have hE:Ext w5 w4:=hG;have hS:=hE.size
    have q50:f 6= .agg #[.int .i64 c.1,.slice a' n' p',.bool b',.slice a1' n1' c1',.slice a2' n2' c2',.int .i64 0]:=tellM hp 0 6 rfl rfl
    change OpGoal _ _ _ f w4 Ext _;exact og_buildSlice (P:=Tryz.prog) 153 158 1 6 _ [.agg #[.int .i64 c.1,.slice a' n' p',.bool b',.slice a1' n1' c1',.slice a2' n2' c2',.int .i64 0]] rfl rfl Tryz.underlying153 (by kernel_rfl) (by kernel_rfl) (by simp only[Act.eval];exact congrArg (fun z=> [(0,z)]) q50) rfl (by omega) (by omega) (by omega) (by simp only[List.mem_cons,List.not_mem_nil,or_false,forall_eq];rfl) (fun w' he hb=>⟨_,hS,rfl,hb⟩)
   ·intro f w4 hG hp hl;have hE:Ext w5 w4:=hG;have hS:=hE.size
    have q48:f 4= .slice ad n cap:=tellM hp 0 4 rfl rfl
    have q51:=tellM hp 1 7 rfl rfl;intro hI hU
    have q48:f 4= .slice ad n cap:=tellM hp 0 4 rfl rfl
    obtain⟨gx,hgx,hvx,hbx⟩:=tellM hp 1 7 rfl rfl
    exact og_append (P:=Tryz.prog) _ _ 153 rfl rfl B 158 6 96 Tryz.underlying153 (by kernel_rfl) (by kernel_rfl) (by omega) (.slice ad n cap) n (flatS vs) q48 (ownsRow_extI HO5.out hE) ⟨gx,0,none⟩ 1 1 [.int .i64 c.1,.slice a' n' p',.bool b',.slice a1' n1' c1',.slice a2' n2' c2',.int .i64 0] hvx rfl (fun j u hj=>by rw[Addr.add_lit,Nat.zero_add,hbx.cell];simpa using hj) (by intro u hu;simp at hu;rcases hu with rfl |rfl |rfl |rfl |rfl |rfl<;>rfl) (by omega) (by unfold maxLen;omega) (by omega) (by have:=hE.size;omega) (fun v' w' h1 h2 h3=>⟨⟨G5.ext hE,HGR.out _ _ h2⟩,h1,fun g hg=>(h3 g hg).imp_right fun h=>by have:=hE.size;omega⟩)
   ·intro f w4 hG hp hl;have hS:w5.heap.size≤w4.heap.size:=hG.2.2.2.1
    have q44:f 0= .pointer (some ⟨g,0,none⟩):=tellM hp 0 0 rfl rfl
    simp only[OpGoal];go_simp;exact⟨_,rfl,Ext.refl _,rfl⟩
   ·intro f w4 hG hp hl;have hS:w5.heap.size≤w4.heap.size:=hG.2.2.2.1
    have q53:f 9= .pointer (some ⟨g,0,none⟩):=tellM hp 0 9 rfl rfl
    simp only[OpGoal];go_simp;exact⟨_,rfl,Ext.refl _,rfl⟩
   ·intro f w4 hG hp hl;have hS:w5.heap.size≤w4.heap.size:=hG.2.2.2.1
    have q54:f 10= .pointer (some ⟨g,1,none⟩):=tellM hp 0 10 rfl rfl
    intro hI hU
    have q54:f 10= .pointer (some ⟨g,1,none⟩):=tellM hp 0 10 rfl rfl
    have q52:=tellMS hp 1 8 rfl (show smAt _ 8=some (stAP B gA g (.int .i64 pat) (.slice ad n cap) B n _ 8)from rfl);obtain⟨ad',cap',hv'⟩:=ownsRow_lenP q52.1;have hPw:Bx 155 w4 g #[.int .i64 pat,.slice ad n cap]:=(show w4.heap[g]? =w5.heap[g]? from hU).trans G5;have hcl:=hPw.cell 1;have hfr:=hPw.free 1;change OpGoal _ _ _ f w4 _ _;have HQ:=Lib.hid q52;clear q52;simp only[OpGoal];go_simp;exact⟨undef,rfl,⟨⟨_,hPw⟩,Chg.setCell _ _ _ _⟩,_,hPw.set 1 _,ownsRow_chgP (hv'▸HQ.out.1) (Chg.setCell _ _ _ _) hPw (by decide),hv'▸HQ.out.2⟩
  ·intro f w4 hC hF hp;clear hp;obtain⟨v5,hP4,hO4, -⟩:=hF
   have hk45:KeepT w5 w4:=hC.keepT fun x hx=>by
    simp only[List.mem_cons,List.not_mem_nil,or_false]at hx
    rcases hx with rfl |rfl
    ·exact HGA.out
    ·exact⟨_,_,G5,by decide,by decide⟩
   have hfin:PoolAt B (2*K) w4 g (addP cs c):=by
    rw[HYES.out.2,HID.out.2.1];refine⟨pat,v5,hP4,⟨vs++ [.agg #[.int .i64 c.1,.slice a' n' p',.bool b',.slice a1' n1' c1',.slice a2' n2' c2',.int .i64 0]],⟨?_,?_⟩,by rw[List.length_append,List.length_append,HVE.out.1];rfl,fun i u x hu hx=> ?_⟩,hBg⟩
    ·intro u hu
     rcases List.mem_append.1 hu with hu |hu
     ·exact HST.out u hu
     ·rw[List.mem_singleton]at hu;exact⟨_,hu,rfl,(all6 rfl rfl rfl rfl rfl rfl)⟩
    ·rw[List.length_append,HVN.out,flatS_append];exact hO4
    ·by_cases hin:i<vs.length
     ·rw[List.getElem?_append_left hin]at hu;rw[List.getElem?_append_left (by have:=HVE.out.1;omega)]at hx;exact(HVE.out.2 i u x hu hx).ext (Ext.refl _) |>.keepT hk45
     ·have hil:=(List.getElem?_eq_some_iff.1 hu).1;rw[List.length_append]at hil
      have hie:i=vs.length:=by simp only[List.length_cons,List.length_nil]at hil;omega
      subst hie;rw[List.getElem?_concat_length]at hu;rw[HVE.out.1,List.getElem?_concat_length]at hx
      cases hu
      cases hx
      exact⟨_,_,_,_,_,_,_,_,_,_,_,rfl,(HT5.out.keepT hk45).mono hB,(HR5.out.keepT hk45).mono hB,HZ.out⟩
   have HFIN:=Lib.hid hfin
   have HX:=Lib.hid (show∀a,Ext a w→a.heap.size≤B→Ext a w4 from fun a ha haB=>(ha.trans E5).stepS hC (fun x hx=>by
    simp only[List.mem_cons,List.not_mem_nil,or_false]at hx
    rcases hx with rfl |rfl<;>omega))
   clear hfin hC hP4 hO4 hk45;go_wp2;go_ret
   exact⟨by rw[HYES.out.1]<;>rfl,HFIN.out,HX.out⟩
 ·have hge:0≤r:=by omega
  obtain⟨i,hi1,hi2,hi3, -⟩:=idxP_nat (by rw[←hr];exact hneg:¬idxP cs (scaleC c)<0);rw[←hr]at hi1;subst hi1;have HID:=Lib.hid hi3
  have hin:(i:Int)<(n:Int):=by rw[HNL.out];omega
  have hge2:(0:Int)≤(i:Int):=by omega
  obtain⟨gl,capl,cur,hcv,hcur,hcl,hBl⟩:=HL5.out.cur (g:=0) hi2
  cases hcv
  clear hr hi3 hneg
  have hin2:(i:Int)<(cs.length:Int):=by omega
  have hgl:=hcur.lt;go_wp2_with fail;refine wp_region_putg [⟨8,gl,fun w=>Bx 158 w gl (laidS cur (i*6) (#[.int .i64 c.1,.slice a' n' p',.bool b',.slice a1' n1' c1',.slice a2' n2' c2',.int .i64 0]:Array Value).toList).toArray,fun _ _ he h=>Bx.ext h he,fun _ hne hg _ _ he h=>Bx.chg h he (by omega)⟩] [PP.val (.pointer (some ⟨g,0,none⟩)),PP.val (.pointer (some ⟨g,0,none⟩)),PP.val (.pointer (some ⟨g,1,none⟩)),PP.val (.slice (some ⟨gl,0,none⟩) cs.length cap),PP.val (.int .i64 (i:Int)),PP.val (.agg #[.int .i64 c.1,.slice a' n' p',.bool b',.slice a1' n1' c1',.slice a2' n2' c2']),PP.val (.agg #[.int .i64 c.1,.slice a' n' p',.bool b',.slice a1' n1' c1',.slice a2' n2' c2',.int .i64 0]),PP.val (.pointer (some ⟨gl,i*6,none⟩)),PP.any] [] [8,7,6,5,4,3,2,1,0]
   (by kernel_rfl) (by kernel_rfl) (fun f=>(by simp only[fillR,fillL,List.setIfInBounds_toArray,List.set_cons_succ,List.set_cons_zero,Nat.reduceAdd];rfl)) ?_ ?_ ?_ ?_ ?_
  ·intro x hx;simp only[List.mem_singleton]at hx;subst hx;show gl<w5.heap.size;omega
  ·intro x hx;simp only[List.mem_singleton]at hx;subst hx;rfl
  ·intro x hx y hy h;simp only[List.mem_singleton]at hx hy;subst hx hy;exact absurd rfl h
  ·refine⟨?_,?_,?_,?_,?_,?_,?_,?_,?_,trivial⟩
   ·intro f w2 hG hp hl;simp only[OpGoal];go_simp;exact⟨_,rfl,Ext.refl _,rfl⟩
   ·intro f w2 hG hp hl
    have q36:f 0= .pointer (some ⟨g,0,none⟩):=tellG hp 0 0 rfl rfl (fun h=>by cases h)
    simp only[OpGoal];go_simp;exact⟨_,rfl,Ext.refl _,rfl⟩
   ·intro f w2 hG hp hl
    have q37:f 1= .pointer (some ⟨g,0,none⟩):=tellG hp 0 1 rfl rfl (fun h=>by cases h)
    simp only[OpGoal];go_simp;exact⟨_,rfl,Ext.refl _,rfl⟩
   ·intro f w2 hG hp hl;have hE:Ext w5 w2:=hG
    have q38:f 2= .pointer (some ⟨g,1,none⟩):=tellG hp 0 2 rfl rfl (fun h=>by cases h)
    have hcell:=(G5.ext hE).cell 1;simp only[OpGoal];go_simp;exact⟨_,rfl,Ext.refl _,rfl⟩
   ·intro f w2 hG hp hl;simp only[OpGoal];go_simp;exact⟨_,rfl,Ext.refl _,rfl⟩
   ·intro f w2 hG hp hl;have hE:Ext w5 w2:=hG;change OpGoal _ _ _ f w2 Ext _;exact og_load (P:=Tryz.prog) _ _ w.heap.size _ _ _ rfl rfl rfl (S5.ext hE) Tryz.underlying36 rfl (by kernel_rfl) rfl
   ·intro f w2 hG hp hl
    have q41:f 5= .agg #[.int .i64 c.1,.slice a' n' p',.bool b',.slice a1' n1' c1',.slice a2' n2' c2']:=tellG hp 0 5 rfl rfl (fun h=>by cases h)
    simp only[OpGoal];go_simp;exact⟨_,rfl,Ext.refl _,rfl⟩
   ·intro f w2 hG hp hl
    have q39:f 3= .slice (some ⟨gl,0,none⟩) cs.length cap:=tellG hp 0 3 rfl rfl (fun h=>by cases h)
    have q40:f 4= .int .i64 (i:Int):=tellG hp 1 4 rfl rfl (fun h=>by cases h)
    simp only[OpGoal];go_simp;exact⟨_,rfl,Ext.refl _,rfl⟩
   ·intro f w2 hG hp hl;have hE:Ext w5 w2:=hG;have hS:=hE.size
    have q43:f 7= .pointer (some ⟨gl,i*6,none⟩):=tellG hp 0 7 rfl rfl (fun h=>by cases h)
    have q42:f 6= .agg #[.int .i64 c.1,.slice a' n' p',.bool b',.slice a1' n1' c1',.slice a2' n2' c2',.int .i64 0]:=tellG hp 1 6 rfl rfl (fun h=>by cases h)
    intro hg0;change OpGoal _ _ _ f w2 (Chg _) _;exact og_storeAt (P:=Tryz.prog) gl (i*6) 158 _ cur #[.int .i64 c.1,.slice a' n' p',.bool b',.slice a1' n1' c1',.slice a2' n2' c2',.int .i64 0] _ _ rfl rfl q43 q42 (by kernel_rfl) (show Bx 158 w2 _ _ from hg0.trans hcur) (show i*6+6≤cur.length by omega) (all6 rfl rfl rfl rfl rfl rfl) (fun w' hc hb u=>hb)
  ·intro f w6 hG hp;have hz0:=endGS hp 8 (by decide);clear hp;have hC:Chg gl w5 w6:=ChgS.one hG
   have hk56:KeepT w5 w6:=hG.keepT fun x hx=>by
    simp only[List.map_cons,List.map_nil,List.mem_singleton]at hx;subst hx;exact⟨_,_,hcur,by decide,by decide⟩
   have hfin:PoolAt B (2*K) w6 g (addP cs c):=by
    rw[HYES.out.2,HID.out];exact⟨pat,_,G5.chgK hC hcur (by decide),HL5.out.put hi2 hcur hC rfl (all6 rfl rfl rfl rfl rfl rfl) hz0 ⟨_,_,_,_,_,_,_,_,_,_,_,rfl,(HT5.out.keepT hk56).mono hB,(HR5.out.keepT hk56).mono hB,HZ.out⟩,hBg⟩
   have HFIN:=Lib.hid hfin;have HX:=Lib.hid (show∀a,Ext a w→a.heap.size≤B→Ext a w6 from fun a ha haB=>(ha.trans E5).step hC (by omega));clear hfin hC hG hk56 hz0 hcur;go_wp2;go_ret
   exact⟨by rw[HYES.out.1]<;>rfl,HFIN.out,HX.out⟩
set_option maxHeartbeats 4000000 in
theorem whole19_calls(n:Int)(w:World)(h0: -9223372036854775808≤n)(h1:n≤9223372036854775807):
  Calls Tryz.prog 138 #[.int .i64 n] w fun e w'=>∃v',e= .returned v'∧FrQ w.heap.size w' v' (n:Rat)∧Ext w w':=by
 have sn:=szD_int n;have tn:=szT_small (z:=n) (by omega)
 go_enter Tryz.func138,Tryz.ntmps138
 obtain⟨w1,hw1,e1,b1,s1⟩:=alloc1 w #[.bool false,.slice none 0 0,.slice none 0 0] 34;go_wp2_with fail;rw[←hw1];refine(rqsmall3_calls n _ h0 h1).mono ?_;rintro e w2 ⟨v2,rfl,q2,e2⟩;go_wp2_with fail;refine(rqto3_calls _ (n:Rat) _ q2.cq (by omega)).mono ?_;rintro e w5 ⟨v5,rfl,q5,e5⟩;obtain⟨s',t',rfl,hn,hm⟩:=q5;obtain⟨ad5,cap5,rfl⟩:=hn.slice;obtain⟨ad6,cap6,rfl⟩:=hm.slice;have Hn5:=Lib.hid hn;have Hm5:=Lib.hid hm;have E25:=e2.trans e5;have hsz:=e2.size;clear hn hm;have hb:=b1.ext E25;have hc0:=hb.cell 0;have hc1:=hb.cell 1;have hc2:=hb.cell 2;have hf0:=hb.free 0;have hf1:=hb.free 1;have hf2:=hb.free 2;go_wp2;refine ret_box 2 34 w.heap.size 34 _ _ (by kernel_rfl) rfl (((hb.set 0 _).set 1 _).set 2 _) Tryz.underlying34 rfl (by kernel_rfl) rfl ?_;exact⟨_,rfl,⟨_,_,rfl,(Hn5.out.chg (Chg.trans (Chg.trans (Chg.setCell _ w.heap.size 0 _) (Chg.setCell _ w.heap.size 1 _)) (Chg.setCell _ w.heap.size 2 _)) (by omega)).mono (by omega),(Hm5.out.chg (Chg.trans (Chg.trans (Chg.setCell _ w.heap.size 0 _) (Chg.setCell _ w.heap.size 1 _)) (Chg.setCell _ w.heap.size 2 _)) (by omega)).mono (by omega)⟩,(e1.trans E25).step (Chg.trans (Chg.trans (Chg.setCell _ w.heap.size 0 _) (Chg.setCell _ w.heap.size 1 _)) (Chg.setCell _ w.heap.size 2 _)) (by omega)⟩
set_option maxHeartbeats 8000000 in
theorem pline_calls(a b r:Int)(w:World)(h0: -9223372036854775808≤a∧a≤9223372036854775807)(h1: -9223372036854775808≤b∧b≤9223372036854775807)(h2: -9223372036854775808≤r∧r≤9223372036854775807)(k:Nat)(ha:szQ (a:Rat)≤k)(hb:szQ (b:Rat)≤k)(hr:szQ (r:Rat)≤k):
  Calls Tryz.prog 135 #[.int .i64 a,.int .i64 b,.int .i64 r] w fun e w'=>∃v',e= .returned v'∧CnO w.heap.size k w' v' (1,[(0,(a:Rat)),(1,(b:Rat))],(r:Rat))∧Ext w w':=by
 obtain⟨w1,hw1,e1,b1,s1⟩:=alloc1 w #[.int .i64 0,.slice none 0 0,.bool false,.slice none 0 0,.slice none 0 0] 36
 go_enter Tryz.func135,Tryz.ntmps135
 go_wp2_with fail;rw[←hw1];refine(whole19_calls a w1 h0.1 h0.2).mono ?_;rintro e w2 ⟨v2,rfl,q2,e2⟩;obtain⟨tb,ta1,tn1,tc1,ta2,tn2,tc2,rfl,q2⟩:=q2.opn;have Q2:=Lib.hid q2;have hs2:=e2.size;clear q2;go_wp2_with fail;refine(whole19_calls b w2 h1.1 h1.2).mono ?_;rintro e w2' ⟨v2',rfl,q2',e2'⟩;obtain⟨ub,ua1,un1,uc1,ua2,un2,uc2,rfl,q2'⟩:=q2'.opn;have hs2':=e2'.size;obtain⟨w3,hw3,e3,b3,s3⟩:=alloc1 w2' #[.int .i64 0,.bool tb,.slice ta1 tn1 tc1,.slice ta2 tn2 tc2,.int .i64 1,.bool ub,.slice ua1 un1 uc1,.slice ua2 un2 uc2] 96;have Q3:=Lib.hid (And.intro (Q2.out.ext (e2'.trans e3)) (q2'.ext e3));clear q2' Q2;go_wp2_with fail;rw[←hw3];refine(whole19_calls r w3 h2.1 h2.2).mono ?_;rintro e w4 ⟨v4,rfl,q4,e4⟩;obtain⟨b4,a1,n1,c1,a2,n2,c2,rfl,q4⟩:=q4.opn;have hs4:=e4.size;have E24:=((e2.trans e2').trans e3).trans e4;have Q4:=Lib.hid (And.intro (q4.mono (show w.heap.size+1≤_ by omega)) (And.intro ((Q3.out.1.ext e4).mono (show w.heap.size+1≤_ by omega)) ((Q3.out.2.ext e4).mono (show w.heap.size+1≤_ by omega))));have BT:=b3.ext e4;have hq:=b1.ext E24;have hq0:=hq.cell 0;have hf0:=hq.free 0;have hq1:=hq.cell 1;have hf1:=hq.free 1;have hq2:=hq.cell 2;have hf2:=hq.free 2;have hq3:=hq.cell 3;have hf3:=hq.free 3;have hq4:=hq.cell 4;have hf4:=hq.free 4;clear hw1 hw3 q4 b3 b1 e3 e4 Q3;have X4:=Lib.hid (e1.trans E24);clear e1 e2 E24;go_wp2;have hc:=((((Chg.setCell w4 w.heap.size 0 (.int .i64 1)).trans (Chg.setCell _ w.heap.size 1 (.slice (some ⟨w2'.heap.size,0,none⟩) 2 2))).trans (Chg.setCell _ w.heap.size 2 (.bool b4))).trans (Chg.setCell _ w.heap.size 3 (.slice a1 n1 c1))).trans (Chg.setCell _ w.heap.size 4 (.slice a2 n2 c2))
 refine ret_box 6 36 w.heap.size 36 _ _ (by kernel_rfl) rfl (((((hq.set 0 _).set 1 _).set 2 _).set 3 _).set 4 _) Tryz.underlying36 rfl (by kernel_rfl) rfl ?_
 have hT:TO (w.heap.size+1) k w4 (.slice (some ⟨w2'.heap.size,0,none⟩) 2 2) [(0,(a:Rat)),(1,(b:Rat))]:=by
  have:=LS.of_hold (e:=96) (n:=4) (B:=w.heap.size+1) (w:=w4) (vs:=(tsP [((⟨0,tb,ta1,tn1,tc1,ta2,tn2,tc2⟩:TmC),(a:Rat)),((⟨1,ub,ua1,un1,uc1,ua2,un2,uc2⟩:TmC),(b:Rat))]).map tmv) (g:=w2'.heap.size) (cap:=2) (rest:=[]) (strN_tmv _) (by omega) (Nat.le_refl _) (by omega) rfl BT
  exact TO.of_ps this fun p hp=>by
   simp only[List.mem_cons,List.not_mem_nil,or_false]at hp
   rcases hp with rfl |rfl
   ·exact⟨Q4.out.2.1,ha⟩
   ·exact⟨Q4.out.2.2,hb⟩
 exact⟨_,rfl,⟨_,_,_,b4,a1,n1,c1,a2,n2,c2,rfl,(hT.chg hc (by omega)).mono (by omega),(Q4.out.1.chg hc (by omega)).mono (by omega),hr⟩,X4.out.step hc (Nat.le_refl _)⟩
set_option maxHeartbeats 8000000 in
theorem pcuts_calls(B K K2 N g:Nat)(w:World)(cs:List CR)(h:PoolAt B K w g cs)(hN:∀x∈cs,x.2.1.length≤N)(hcs:cs.length≤1000)(hn:N≤1073741824)(hk:(N+1)*(K+1)≤34359738000)(hK2:N*(K+1)≤K2)(hK3:K≤K2):
  Calls Tryz.prog 69 #[.pointer (some ⟨g,0,none⟩)] w fun e w'=>∃v',e= .returned v'∧OL 36 5 w.heap.size (CnO w.heap.size K2) w' v' (cs.map formC)∧Ext w w':=by
 have hKk:K+1≤(N+1)*(K+1):=Nat.le_mul_of_pos_left _ (by omega)
 have hKL:K≤LIM:=by rw[LIM_eq];omega
 obtain⟨pat,hv,hb,hl, -⟩:=h;obtain⟨ad,n,cap,hnl,rfl,hn1,hat⟩:=hl.at;have HN:=Lib.hid hnl;have HAT:=Lib.hid hat;have HNN:=Lib.hid hN
 have hn1000:n≤1000:=by rw[hnl];exact hcs
 clear hnl hat hl hN;have hc1:=hb.cell 1
 go_enter Tryz.func69,Tryz.ntmps69
 go_wp2_with fail;clear hc1
 go_loopw [2,10] (fun s2 s10 wr=>∃(i:Nat) (ado:Option Addr) (capo:Nat),i≤n∧s10= .int .i64 (i:Int)∧s2= .slice ado i capo∧Hid (OL 36 5 w.heap.size (CnO w.heap.size K2) wr (.slice ado i capo) ((cs.take i).map formC))∧Ext w wr) (fun _ s10 _=>((n:Int) - intOf s10).toNat)
 case atStart=>exact ⟨0,none,0,Nat.zero_le _,rfl,rfl,Lib.hid (OL.nil _ _ _ _ _),Ext.refl _⟩
 case round=>
  obtain⟨i,ado,capo,hi,rfl,rfl,hS,hE0⟩:=hrel
  rcases Nat.eq_or_lt_of_le hi with hin |hin
  ·subst hin
   have hlt:¬((i:Int)<(i:Int)):=by omega
   have HT:Hid (OL 36 5 w.heap.size (CnO w.heap.size K2) wr (.slice ado i capo) (cs.map formC)):=Lib.hid (by
    have:=hS.out
    rw[show cs.take i=cs by rw[HN.out,List.take_length]]at this
    exact this)
   clear hS;go_wp2;go_ret;exact⟨_,rfl,HT.out,hE0⟩
  ·have hlt:(i:Int)<(n:Int):=by omega
   obtain⟨c,hx⟩:∃x,cs[i]? =some x:=⟨_,List.getElem?_eq_getElem (by rw[←HN.out];exact hin)⟩;obtain⟨g1,off,rfl,ay,ny,py,bby,a1y,n1y,c1y,a2y,n2y,c2y,age,hcell,hT,hQ,hz⟩:=HAT.out i _ hx;obtain⟨hc0,hc1,hc2,hc3,hc4,hc5⟩:=hcell wr hE0;obtain⟨vs,hls,hvl,hvs⟩:=hS.out
   have hvi:vs.length=i:=by rw[hvl,List.length_map,List.length_take,←HN.out];omega
   have htk:=take_next hx;subst hvi;have HTK:=Lib.hid htk;have HLS:=Lib.hid hls;have HV:=Lib.hid (And.intro hvl hvs);have HC:=Lib.hid (show∀w',Ext w w'→CnR K w' (.agg #[.int .i64 c.1,.slice ay ny py,.bool bby,.slice a1y n1y c1y,.slice a2y n2y c2y]) c from fun w' h=>⟨_,_,_,_,_,_,_,_,_,_,rfl,(hT.ext h).tl hKL,(hQ.ext h).isR hz hKL⟩);have hcN:=HNN.out c (List.mem_of_getElem? hx);have hwr:=hE0.size;clear hcell hx hls hvl hvs htk hT hQ hz hS;obtain⟨wa,hwa,ea,Ba,sa⟩:=alloc1 wr #[.int .i64 c.1,.slice ay ny py,.bool bby,.slice a1y n1y c1y,.slice a2y n2y c2y,.int .i64 age] 158;have hba:=Ba;have hq0:=hba.cell 0;have hq1:=hba.cell 1;have hq2:=hba.cell 2;have hq3:=hba.cell 3;have hq4:=hba.cell 4;have hq5:=hba.cell 5;rw[hwa]at hq0 hq1 hq2 hq3 hq4 hq5;go_wp2_with fail;rw[←hwa];refine(cform_calls K K2 _ c wa (HC.out _ (hE0.trans ea)) (by omega) (Nat.le_trans (Nat.mul_le_mul_right _ (by omega)) hk) (Nat.le_trans (Nat.mul_le_mul_right _ hcN) hK2) hK3).mono ?_;rintro e w6 ⟨v6,rfl,r6,e6⟩;have e06:=ea.trans e6;have HR6:=Lib.hid (r6.mono (show w.heap.size≤_ by omega));obtain⟨a',n',p',b',a1',n1',c1',a2',n2',c2',rfl, -⟩:=r6;have hs6:=e06.size;clear hc0 hc1 hc2 hc3 hc4 hc5 hq0 hq1 hq2 hq3 hq4 hq5 hba hwa Ba
   go_wp2_with (first
    | (at_builtin;go_loud (refine wpList_append_LS rfl _ _ 22 rfl 36 5 88 w.heap.size Tryz.underlying22 (by kernel_rfl) (by kernel_rfl) (by omega) _ vs rfl (HLS.out.ext (e06.trans ((Ext.refl _).alloc _))) ⟨w6.heap.size,0,none⟩ #[.int .i64 (formC c).1,.slice a' n' p',.bool b',.slice a1' n1' c1',.slice a2' n2' c2'] rfl rfl (news_new _ _ _) (by kernel_rfl) (by omega) (by omega) (by rw[alloc_size];omega) ?_);intro g' cap2' w7 hls7 hg7 hwh7 hlt7)
    |fail)
   go_roundw
   case rel=>
    have hA:=(Ext.refl w6).alloc (.cells #[.int .i64 (formC c).1,.slice a' n' p',.bool b',.slice a1' n1' c1',.slice a2' n2' c2'] 36);refine⟨vs.length+1,some ⟨g',0,none⟩,cap2',by omega,by simp,rfl,Lib.hid ?_,((hE0.trans e06).trans hA).stepG hg7 HLS.out.ge⟩;rw[HTK.out,List.map_append];have hLA:=HLS.out.ext (e06.trans hA)
    have grow:∀{u:Value} {y:CR},CnO w.heap.size K2 (w6.alloc (.cells #[.int .i64 (formC c).1,.slice a' n' p',.bool b',.slice a1' n1' c1',.slice a2' n2' c2'] 36)) u y→CnO w.heap.size K2 w7 u y:=fun{u y} h=>by
     rcases ownsRow_growN hLA.2 hg7 with he |⟨gx,cx,hbx,hcx⟩
     ·exact h.ext he
     ·exact h.chgB hcx hbx
    exact OL.app (w:=w6.alloc (.cells #[.int .i64 (formC c).1,.slice a' n' p',.bool b',.slice a1' n1' c1',.slice a2' n2' c2'] 36)) HV.out.1 (fun i u y h1 h2=>(HV.out.2 i u y h1 h2).ext (e06.trans hA)) hls7 (fun u y h=>grow h) (grow (HR6.out.ext hA))
   case measure=>simp [intOf];omega
def SliceN(e:Ending)(n:Nat):Prop:=∃a c,e= .returned (.slice a n c)
def brokeN(cs:List CR)(xs:List Rat):Nat:=(cs.filter fun c=> !holdsC c xs).length
theorem brokeN_snoc(cs:List CR)(c:CR)(xs:List Rat):brokeN (cs++ [c]) xs=brokeN cs xs+(if holdsC c xs then 0 else 1):=by
 unfold brokeN;rw[List.filter_append,List.length_append]
 cases h:holdsC c xs<;>simp [h]
set_option maxHeartbeats 8000000 in
theorem pbroken_calls(B K kx N g:Nat)(u:Value)(w:World)(cs:List CR)(xs:List Rat)(h:PoolAt B K w g cs)(hu:QL kx w u xs)(hN:∀x∈cs,x.2.1.length≤N)(hcs:cs.length≤1000)(hk:(N+1)*(K+kx+1)≤34359738000):
  Calls Tryz.prog 137 #[.pointer (some ⟨g,0,none⟩),u] w fun e w'=>SliceN e (brokeN cs xs)∧Ext w w':=by
 have hKk:K+kx+1≤(N+1)*(K+kx+1):=Nat.le_mul_of_pos_left _ (by omega)
 have hKL:K≤LIM:=by rw[LIM_eq];omega
 obtain⟨pat,hv,hb,hl, -⟩:=h;obtain⟨ad,n,cap,hnl,rfl,hn1,hat⟩:=hl.at;have HN:=Lib.hid hnl;have HAT:=Lib.hid hat;have HNN:=Lib.hid hN;have HU:=Lib.hid hu
 have hn1000:n≤1000:=by rw[hnl];exact hcs
 clear hnl hat hl hN hu;have hc1:=hb.cell 1
 go_enter Tryz.func137,Tryz.ntmps137
 go_wp2_with fail;clear hc1
 go_loopw [4,12] (fun s4 s12 wr=>∃(i j:Nat) (ado:Option Addr) (capo:Nat),i≤n∧j≤i∧s12= .int .i64 (i:Int)∧s4= .slice ado j capo∧Hid (j=brokeN (cs.take i) xs∧∃l:List Int,l.length=j∧OV 3 w.heap.size (fun _ v z=>v= .int .i64 z) wr (.slice ado j capo) l)∧Ext w wr) (fun _ s12 _=>((n:Int) - intOf s12).toNat)
 case atStart=>exact ⟨0,0,none,0,Nat.zero_le _,Nat.le_refl _,rfl,rfl,Lib.hid ⟨rfl,[],rfl,OV.nil _ _ _ _⟩,Ext.refl _⟩
 case round=>
  obtain⟨i,j,ado,capo,hi,hji,rfl,rfl,hS,hE0⟩:=hrel
  rcases Nat.eq_or_lt_of_le hi with hin |hin
  ·subst hin
   have hlt:¬((i:Int)<(i:Int)):=by omega
   have HT:Hid (j=brokeN cs xs):=Lib.hid (by
    have:=hS.out.1
    rw[show cs.take i=cs by rw[HN.out,List.take_length]]at this
    exact this)
   clear hS;go_wp2;go_ret
   exact⟨⟨ado,capo,by rw[←HT.out]<;>rfl⟩,hE0⟩
  ·have hlt:(i:Int)<(n:Int):=by omega
   obtain⟨c,hx⟩:∃x,cs[i]? =some x:=⟨_,List.getElem?_eq_getElem (by rw[←HN.out];exact hin)⟩;obtain⟨g1,off,rfl,ay,ny,py,bby,a1y,n1y,c1y,a2y,n2y,c2y,age,hcell,hT,hQ,hz⟩:=HAT.out i _ hx;obtain⟨hc0,hc1,hc2,hc3,hc4,hc5⟩:=hcell wr hE0;obtain⟨hj,l,hll,vs,hown,hvl,hvs⟩:=hS.out;have htk:=take_next hx;have hbk:=brokeN_snoc (cs.take i) c xs;rw[←htk,←hj]at hbk;have HBK:=Lib.hid hbk
   have hvj:vs.length=j:=by omega
   rw[hvj]at hown;have HO:=Lib.hid hown;have HVS:=Lib.hid (And.intro hvl (And.intro hvs hvj));have HLL:=Lib.hid hll;have HC:=Lib.hid (show∀w',Ext w w'→CnR K w' (.agg #[.int .i64 c.1,.slice ay ny py,.bool bby,.slice a1y n1y c1y,.slice a2y n2y c2y]) c from fun w' h=>⟨_,_,_,_,_,_,_,_,_,_,rfl,(hT.ext h).tl hKL,(hQ.ext h).isR hz hKL⟩);have hcN:=HNN.out c (List.mem_of_getElem? hx);have hwr:=hE0.size;clear hcell hx hown hvl hvs htk hT hQ hz hS hj hbk hvj hll;obtain⟨wa,hwa,ea,Ba,sa⟩:=alloc1 wr #[.int .i64 c.1,.slice ay ny py,.bool bby,.slice a1y n1y c1y,.slice a2y n2y c2y,.int .i64 age] 158;have hba:=Ba;have hq0:=hba.cell 0;have hq1:=hba.cell 1;have hq2:=hba.cell 2;have hq3:=hba.cell 3;have hq4:=hba.cell 4;have hq5:=hba.cell 5;rw[hwa]at hq0 hq1 hq2 hq3 hq4 hq5;go_wp2_with fail;rw[←hwa];refine(holds_calls K kx _ _ c xs wa (HC.out _ (hE0.trans ea)) (HU.out.ext (hE0.trans ea)) (Nat.le_trans (Nat.mul_le_mul_right _ (by omega)) hk)).mono ?_;rintro e w6 ⟨rfl,e6⟩;have e06:=ea.trans e6;have hs6:=e06.size;obtain⟨r,hr⟩:∃r,r=holdsC c xs:=⟨_,rfl⟩;rw[←hr];have HR:=Lib.hid hr;clear hc0 hc1 hc2 hc3 hc4 hc5 hq0 hq1 hq2 hq3 hq4 hq5 hba hwa Ba hr
   cases r with
   |true=>
    have HJ:Hid (j=brokeN (cs.take (i+1)) xs):=Lib.hid (by rw[HBK.out,←HR.out];rfl)
    have HL:Hid (∃l:List Int,l.length=j∧OV 3 w.heap.size (fun _ v z=>v= .int .i64 z) w6 (.slice ado j capo) l):=Lib.hid ⟨l,HLL.out,vs,by rw[HVS.out.2.2];exact ownsRow_extI HO.out e06,HVS.out.1,HVS.out.2.1⟩
    go_wp2;go_roundw
    case rel=>exact ⟨i+1,j,ado,capo,by omega,by omega,congrArg (Value.int .i64) (by omega),rfl,Lib.hid ⟨HJ.out,HL.out⟩,hE0.trans e06⟩
    case measure=>simp [intOf];omega
   |false=>
    have HJ:Hid (j+1=brokeN (cs.take (i+1)) xs):=Lib.hid (by rw[HBK.out,←HR.out];rfl)
    go_wp2_with (first
     | (at_builtin;go_loud (refine wpList_append_V rfl _ _ 77 rfl 3 8 w.heap.size Tryz.underlying77 (by kernel_rfl) (by kernel_rfl) _ j vs rfl (ownsRow_extI HO.out (e06.trans ((Ext.refl _).alloc _))) ⟨w6.heap.size,0,none⟩ (.int .i64 (i:Int)) rfl (cell_one_new _ _ _) rfl (by omega) (by omega) (by rw[alloc_size];omega) ?_);intro g'' cap2'' w8 hls8 hg8 hwh8 hlt8)
     |fail)
    go_roundw
    case rel=>
     have hA2:=(Ext.refl w6).alloc (.cells #[.int .i64 (i:Int)] 3);refine⟨i+1,j+1,some ⟨g'',0,none⟩,cap2'',by omega,by omega,congrArg (Value.int .i64) (by omega),rfl,Lib.hid ⟨HJ.out,l++ [(i:Int)],by rw[List.length_append,HLL.out];rfl,?_⟩,((hE0.trans e06).trans hA2).stepG hg8 (ownsRow_ge HO.out)⟩
     have:=OV.app (w:=w6) (R:=fun(_:World) v (z:Int)=>v=Value.int .i64 z) HVS.out.1 HVS.out.2.1 HVS.out.2.2.symm hls8 (fun u y h=>h) (y:=(i:Int)) rfl
     exact this
    case measure=>simp [intOf];omega
end Go.Proofs.YtokfaggcojokgaaGreat
