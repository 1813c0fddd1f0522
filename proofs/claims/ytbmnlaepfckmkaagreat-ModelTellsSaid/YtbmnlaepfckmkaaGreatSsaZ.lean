/-
 A region that draws its order, calls, and stores into parts of blocks that were there when it began: several stores may go into one block.
-/
import Derived.Test.YtbmnlaepfckmkaaGreatComZ
import Derived.Deep.AppendLies
import Derived.Laws.OwnMore
import Derived.WalkKit
namespace Go.Proofs.YtbmnlaepfckmkaaGreat
set_option maxRecDepth 100000
set_option maxHeartbeats 1000000
open Go.RowKit
set_option linter.unusedVariables false
set_option linter.unusedSimpArgs false
structure Sm where
 s:Nat
 g:Nat
 R:World→World→Prop
 U:World→World→Prop
 F:Value→World→Prop
def smAt:List Sm→Nat→Option Sm
 | [],_=>none
 |x::l,k=>if k=x.s then some x else smAt l k
theorem smAt_mem{l:List Sm}{k:Nat}{x:Sm}(h:smAt l k=some x):x∈l∧x.s=k:=by
 induction l with
 |nil=>cases h
 |cons y l ih=>
  simp only[smAt]at h
  split at h
  ·cases h;exact⟨List.mem_cons_self ..,by omega⟩
  ·exact⟨List.mem_cons_of_mem _ (ih h).1,(ih h).2⟩
def postM{S:Nat}(sts:List Sm)(L:List (PP S))(k:Nat)(v:Value)(w1:World):Prop:=
 match smAt sts k with
 |some x=>x.F v w1
 |none=>(L.getD k PP.any).p v w1
theorem tellM{S:Nat}{w1:World}{sts:List Sm}{L:List (PP S)}{f:Nat→Value}{l:List Edge}(hp:PostsOf (postM sts L) f w1 l)(n j:Nat)
  (h:(match l[n]? with |some e=>Region.binds .any e&&e.on==j |none=>false)=true) (hs:smAt sts j=none):(L.getD j PP.any).p (f j) w1:=by
 have:=postsOf_nth l n j h hp
 unfold postM at this;rw[hs]at this;exact this
theorem endM{S:Nat}{w1:World}{sts:List Sm}{L:List (PP S)}{f:Nat→Value}{n:Nat}(hp:AllPosts (postM sts L) f w1 n 0)(j:Nat)(hk:j<n)(hs:smAt sts j=none):(L.getD j PP.any).p (f j) w1:=by
 have:=allPosts_nth n 0 j (Nat.zero_le _) (by omega) hp
 unfold postM at this;rw[hs]at this;exact this
theorem endMS{S:Nat}{w1:World}{sts:List Sm}{L:List (PP S)}{f:Nat→Value}{n:Nat}{x:Sm}(hp:AllPosts (postM sts L) f w1 n 0)(j:Nat)(hk:j<n)(hs:smAt sts j=some x):x.F (f j) w1:=by
 have:=allPosts_nth n 0 j (Nat.zero_le _) (by omega) hp
 unfold postM at this;rw[hs]at this;exact this
def OweM{S:Nat}(P:Program)(fr:(Nat→Value)→Array Value)(df:List Deferred)(w:World)(sts:List Sm)(I:World→Prop)(L:List (PP S))(lates:List (Nat×Nat×Nat))(tmps:Array Value)(pre:List Nat)(k:Nat)(o:Oper):Prop:=
 ∀f w1,(if pre.contains k then Ext w w1 else ChgS (sts.map (·.g)) w w1)→PostsOf (postM sts L) f w1 o.after.toList→LateFacts tmps f k lates→
  match smAt sts k with
  |some x=>I w1→x.U w w1→OpGoal P o ⟨fr f,df⟩ f w1 (fun a b=>x.R a b∧Chg x.g a b) (fun v w2=>x.F v w2)
  |none=>OpGoal P o ⟨fr f,df⟩ f w1 Ext (L.getD k PP.any).p
def OwesM{S:Nat}(P:Program)(fr:(Nat→Value)→Array Value)(df:List Deferred)(w:World)(sts:List Sm)(I:World→Prop)(L:List (PP S))(lates:List (Nat×Nat×Nat))(tmps:Array Value)(pre:List Nat):List Oper→Nat→Prop
 | [],_=>True
 |o::l,k=>OweM P fr df w sts I L lates tmps pre k o∧OwesM P fr df w sts I L lates tmps pre l (k+1)
theorem owesM_at{S:Nat}{P:Program}{fr:(Nat→Value)→Array Value}{df:List Deferred}{w:World}{sts:List Sm}{I:World→Prop}{L:List (PP S)}{lates:List (Nat×Nat×Nat)}{tmps:Array Value}{pre:List Nat}:
  ∀(l:List Oper) (k:Nat),OwesM P fr df w sts I L lates tmps pre l k→∀i o,l[i]? =some o→OweM P fr df w sts I L lates tmps pre (k+i) o
 | [],_,_,i,o,h=>by simp at h
 |x::l,k,hs,i,o,h=>by
  cases i with
  |zero=>
   simp only[List.getElem?_cons_zero,Option.some.injEq]at h;subst h;exact hs.1
  |succ i=>
   have:=owesM_at l (k+1) hs.2 i o (by simpa using h)
   rwa [show k+1+i=k+(i+1)by omega]at this
theorem wp_region_mut{P:Program}{id:Nat}{l:List Oper}{Q:Exit→Act→World→Prop}{tmps:Array Value}{df:List Deferred}{w:World}{fr:(Nat→Value)→Array Value}
  (sts:List Sm) (I:World→Prop) (L:List (PP w.heap.size)) (lates:List (Nat×Nat×Nat)) (pre:List Nat)
  (hm:P.follows .mixedOrders=true) (hok:(regOk l.toArray tmps.size&&lateOk l.toArray lates&&(sts.map (·.s)).all fun s=>ancOk l.toArray [s] (pre.filter (· !=s)))=true)
  (hfr:∀f,fillR l.toArray tmps f=fr f)
  (hlt:∀x∈sts,x.g<w.heap.size) (hs:∀x∈sts,smAt sts x.s=some x) (hL:∀p∈L,p.c=false)
  (hI:I w) (hIe:∀w1 w2,Ext w1 w2→I w1→I w2) (hIr:∀x∈sts,∀w1 w2,Chg x.g w1 w2→x.R w1 w2→I w1→I w2)
  (hFe:∀x∈sts,∀v w1 w2,Ext w1 w2→x.F v w1→x.F v w2) (hFr:∀x∈sts,∀y∈sts,y.s≠x.s→∀v w1 w2,Chg y.g w1 w2→y.R w1 w2→x.F v w1→x.F v w2)
  (hU:∀x∈sts,x.U w w) (hUe:∀x∈sts,∀w1 w2,w.heap.size≤w1.heap.size→Ext w1 w2→x.U w w1→x.U w w2) (hUr:∀x∈sts,∀y∈sts,y.s≠x.s→∀w1 w2,w.heap.size≤w1.heap.size→Chg y.g w1 w2→y.R w1 w2→x.U w w1→x.U w w2)
  (hE:∀w1,ChgS (sts.map (·.g)) w w1→I w1→(∀x∈sts,x.U w w1)→Ext w w1)
  (hstep:OwesM P fr df w sts I L lates tmps pre l 0)
  (hend:∀f w1,ChgS (sts.map (·.g)) w w1→I w1→AllPosts (postM sts L) f w1 l.length 0→Q .normal ⟨fr f,df⟩ w1):
  (Code.region id l.toArray true).wp P Q ⟨tmps,df⟩ w:=by
 simp only[Bool.and_eq_true]at hok;obtain⟨⟨hok1,hok2⟩,hok3⟩:=hok
 have hLk:∀k,(L.getD k PP.any).c=false:=fun k=>by
  by_cases hk:k<L.length
  ·rw[List.getD,List.getElem?_eq_getElem hk];exact hL _ (List.getElem_mem hk)
  ·rw[List.getD,List.getElem?_eq_none (by omega)]
   rfl
 refine wp_region_posts (D:=fun _ _ _=>True) (G:=fun a b=>ChgS (sts.map (·.g)) a b∧(a=w→I b)) (G0:=fun s a b=>w.heap.size≤b.heap.size∧∀x,smAt sts s=some x→a=w→x.U w b)
  (R:=fun i w1 w2=>match smAt sts i with |some x=>x.R w1 w2∧Chg x.g w1 w2 |none=>Ext w1 w2) (post:=postM sts L) hm hok1 (fun _=>trivial) ⟨(Ext.refl w).drew.chgS _,fun _=>hIe _ _ (Ext.refl w).drew hI⟩ (fun s=>⟨(Ext.refl w).drew.size,fun x hx _=>hUe x (smAt_mem hx).1 _ _ (Nat.le_refl _) (Ext.refl w).drew (hU x (smAt_mem hx).1)⟩) ?_ ?_ ?_ ?_ ?_
 ·rintro i w1 w2 ⟨hG,hI1⟩ hR
  cases hx:smAt sts i with
  |none=>rw [hx]at hR;exact⟨hG.trans (hR.chgS _),fun h=>hIe _ _ hR (hI1 h)⟩
  |some x=>rw [hx]at hR;exact⟨hG.trans (hR.2.chgS (List.mem_map.2 ⟨x,(smAt_mem hx).1,rfl⟩)),fun h=>hIr x (smAt_mem hx).1 _ _ hR.2 hR.1 (hI1 h)⟩
 ·rintro s i w1 w2 his ⟨h1,h2⟩ hR
  cases hx:smAt sts i with
  |none=>
   rw[hx]at hR;exact⟨Nat.le_trans h1 hR.size,fun y hy h=>hUe y (smAt_mem hy).1 _ _ h1 hR (h2 y hy h)⟩
  |some x=>
   rw[hx]at hR;refine⟨Nat.le_trans h1 hR.2.size,fun y hy h=>hUr y (smAt_mem hy).1 x (smAt_mem hx).1 ?_ _ _ h1 hR.2 hR.1 (h2 y hy h)⟩;rw[(smAt_mem hy).2,(smAt_mem hx).2]
   omega
 ·rintro i j v w1 w2 hij ⟨hG,_⟩ hR hp;unfold postM at hp ⊢
  cases hxj:smAt sts j with
  |none=>
   rw[hxj]at hR
   cases hxi:smAt sts i with
   |some x=>
    rw[hxi]at hp;exact hFe x (smAt_mem hxi).1 _ _ _ hR hp
   |none=>
    rw[hxi]at hp;exact(L.getD i PP.any).m _ _ _ hR hp
  |some x=>
   rw[hxj]at hR
   cases hxi:smAt sts i with
   |some y=>
    rw[hxi]at hp;refine hFr y (smAt_mem hxi).1 x (smAt_mem hxj).1 ?_ _ _ _ hR.2 hR.1 hp;rw[(smAt_mem hxi).2,(smAt_mem hxj).2]
    omega
   |none=>
    rw[hxi]at hp;exact(L.getD i PP.any).m2 (hLk i) _ (hlt x (smAt_mem hxj).1) _ _ _ hR.2 hp
 ·intro i o ho listed f w1 _ _ _ hG hpre hp hl;have hO:=owesM_at l 0 hstep i o (by simpa using ho);rw[Nat.zero_add]at hO;rw[hfr]
  have hEE:(if pre.contains i then Ext w w1 else ChgS (sts.map (·.g)) w w1):=by
   split
   ·rename_i hpi
    refine hE w1 hG.1 (hG.2 rfl) fun x hx=> ?_
    have hxs:=List.all_eq_true.1 hok3 x.s (List.mem_map.2 ⟨x,hx,rfl⟩)
    have hanc:Anc l.toArray i x.s:=by
     by_cases his:i=x.s
     ·rw[his];exact .self
     ·refine anc_of _ [x.s] (fun j hj=> ?_) hxs i (List.mem_filter.2 ⟨by simpa using hpi,by simpa using his⟩)
      have:j=x.s:=by simpa using hj
      rw[this];exact .self
    exact(hpre x.s hanc).2 x (hs x hx) rfl
   ·exact hG.1
  have hg:=hO f w1 hEE (postsOf_of _ fun e he hb=>hp e (Array.mem_toList_iff.1 he) hb) (lateFacts_of hl lates hok2);unfold postM
  cases hx:smAt sts i with
  |none=>
   simp only[hx]at hg;exact OpGoal.mono (fun _ h=>by simp only[hx];exact h) (fun v w' _ h=>⟨by simp only[hx];exact h,trivial⟩) (fun h=>⟨by simp only[hx];exact h,trivial⟩) hg
  |some x=>
   simp only[hx]at hg;have h0:=(hpre i .self).2 x hx rfl;exact OpGoal.mono (fun w' h=>by simp only[hx];exact h) (fun v w' _ h=>⟨by simp only[hx];exact h,trivial⟩) (fun h=>⟨by simp only[hx];exact h,trivial⟩) (hg (hG.2 rfl) h0)
 ·intro f w1 hG hp _;rw[hfr];exact hend f w1 hG.1 (hG.2 rfl) (allPosts_of _ _ fun i _ hi=>hp i (by simpa using hi))
def flatS(vs:List Value):List Value:=vs.flatMap fun v=>v.cells.toList
def StrN(n:Nat)(vs:List Value):Prop:=∀v∈vs,∃cs:Array Value,v= .agg cs∧cs.size=n∧cs.all (·.oneCell')=true
theorem StrN.size{n:Nat}{vs:List Value}(h:StrN n vs):∀v∈vs,v.cells.size=n:=fun v hv=>by
 obtain⟨cs,rfl,h1, -⟩:=h v hv;exact h1
theorem StrN.nil(n:Nat):StrN n []:=fun v hv=>by cases hv
theorem StrN.app{n:Nat}{vs us:List Value}(h:StrN n vs)(k:StrN n us):StrN n (vs++us):=fun v hv=>by
 rcases List.mem_append.1 hv with hv |hv
 ·exact h v hv
 ·exact k v hv
theorem StrN.one{n:Nat}{cs:Array Value}(h:cs.size=n)(k:cs.all (·.oneCell')=true):StrN n [.agg cs]:=fun v hv=>by
 rw[List.mem_singleton]at hv;exact⟨cs,hv,h,k⟩
theorem StrN.set{n:Nat}{vs:List Value}(h:StrN n vs){u:Value}(hu:StrN n [u])(i:Nat):StrN n (vs.set i u):=fun v hv=>by
 rcases List.mem_or_eq_of_mem_set hv with hv |rfl
 ·exact h v hv
 ·exact hu _ (List.mem_singleton.2 rfl)
theorem flatS_len{n:Nat}{vs:List Value}(h:∀v∈vs,v.cells.size=n):(flatS vs).length=vs.length*n:=by
 induction vs with
 |nil=>simp [flatS]
 |cons v vs ih=>
  unfold flatS at ih ⊢;rw[List.flatMap_cons,List.length_append,ih fun u hu=>h u (List.mem_cons_of_mem _ hu),Array.length_toList,h v (List.mem_cons_self ..),List.length_cons,Nat.add_mul,Nat.one_mul]
  omega
theorem flatS_append(vs us:List Value):flatS (vs++us)=flatS vs++flatS us:=by simp[flatS]
theorem flatS_take{n:Nat}{vs:List Value}(h:∀v∈vs,v.cells.size=n)(i:Nat):(flatS vs).take (i*n)=flatS (vs.take i):=by
 rcases Nat.lt_or_ge i vs.length with hi |hi
 ·conv=>lhs;rw[←List.take_append_drop i vs,flatS_append]
  rw[List.take_append_of_le_length,List.take_of_length_le]
  ·rw[flatS_len fun u hu=>h u (List.mem_of_mem_take hu),List.length_take,Nat.min_eq_left (by omega)];exact Nat.le_refl _
  ·rw[flatS_len fun u hu=>h u (List.mem_of_mem_take hu),List.length_take,Nat.min_eq_left (by omega)];exact Nat.le_refl _
 ·rw[List.take_of_length_le hi,List.take_of_length_le];rw[flatS_len h];exact Nat.mul_le_mul_right _ hi
theorem flatS_drop{n:Nat}{vs:List Value}(h:∀v∈vs,v.cells.size=n)(i:Nat):(flatS vs).drop (i*n)=flatS (vs.drop i):=by
 have h1:=flatS_take h i
 have h2:flatS vs=flatS (vs.take i)++flatS (vs.drop i):=by rw[←flatS_append,List.take_append_drop]
 rw[←List.take_append_drop (i*n) (flatS vs),h1]at h2;exact List.append_cancel_left h2
theorem flatS_get{n:Nat}(hn:0<n){vs:List Value}(h:∀v∈vs,v.cells.size=n){i:Nat}{cs:Array Value}(hi:vs[i]? =some (.agg cs))(j:Nat)(hj:j<n):(flatS vs)[i*n+j]? =cs[j]? :=by
 have h1:=flatS_drop h i
 have h2:vs.drop i= .agg cs::vs.drop (i+1):=by
  obtain⟨hl,hv⟩:=List.getElem?_eq_some_iff.1 hi;rw[List.drop_eq_getElem_cons hl,hv]
 rw[h2]at h1
 have h3:flatS (Value.agg cs::vs.drop (i+1))=cs.toList++flatS (vs.drop (i+1)):=rfl
 rw[h3]at h1
 have h4:(flatS vs)[i*n+j]? =((flatS vs).drop (i*n))[j]? :=by rw[List.getElem?_drop]
 have h5:cs.size=n:=h _ (List.mem_of_getElem? hi)
 rw[h4,h1,List.getElem?_append_left (by rw[Array.length_toList,h5];exact hj),Array.getElem?_toList]
def laidS(cur:List Value)(off:Nat)(cs:List Value):List Value:=cur.take off++cs++cur.drop (off+cs.length)
theorem laidS_flat{n:Nat}{vs rest:List Value}{i:Nat}{v:Value}(h:∀v∈vs,v.cells.size=n)(hi:i<vs.length)(hv:v.cells.size=n):laidS (flatS vs++rest) (i*n) v.cells.toList=flatS (vs.set i v)++rest:=by
 have hvl:v.cells.toList.length=n:=by rw[Array.length_toList,hv]
 have hle:i*n+n≤(flatS vs).length:=by
  rw[flatS_len h,←Nat.succ_mul];exact Nat.mul_le_mul_right _ hi
 unfold laidS;rw[hvl,List.take_append_of_le_length (by omega),List.drop_append_of_le_length hle,flatS_take h,show i*n+n=(i+1)*n by rw[Nat.succ_mul],flatS_drop h,List.set_eq_take_append_cons_drop,if_pos hi,flatS_append]
 have h6:flatS (v::vs.drop (i+1))=v.cells.toList++flatS (vs.drop (i+1)):=rfl
 rw[h6];simp only[List.append_assoc]
def LS(e:TypeId)(n B:Nat)(w:World)(v:Value)(vs:List Value):Prop:=StrN n vs∧w.ownsRow B e n v vs.length (flatS vs)
section
variable {e:TypeId} {n B:Nat} {w w':World} {v:Value} {vs:List Value}
theorem LS.nil(e:TypeId)(n B:Nat)(w:World):LS e n B w (.slice none 0 0) []:=⟨.nil n,World.ownsRow_nil _ _ _ _⟩
theorem LS.mono{B':Nat}(h:LS e n B w v vs)(hb:B'≤B):LS e n B' w v vs:=by
 refine⟨h.1,h.2.1,?_⟩
 rcases h.2.2 with h2 |⟨g,cap,cur,h1,h2,h3⟩
 ·exact .inl h2
 ·exact .inr ⟨g,cap,cur,h1,Nat.le_trans hb h2,h3⟩
theorem LS.kept{row:Option Nat}(h:LS e n B w v vs)(hg:w.grownBy w' row)(hne:v.ownBlock=none∨v.ownBlock≠row):LS e n B w' v vs:=⟨h.1,h.2.kept hg hne⟩
theorem LS.ext(h:LS e n B w v vs)(he:Ext w w'):LS e n B w' v vs:=h.kept he (by
 cases hv:v.ownBlock with
 |none=>exact .inl rfl
 |some g=>exact .inr (by simp))
theorem LS.chgT{p:Nat}{t:TypeId}{cs:Array Value}(h:LS e n B w v vs)(he:Chg p w w')(hp:Bx t w p cs)(ht:t≠e):LS e n B w' v vs:=by
 refine⟨h.1,h.2.1,?_⟩
 rcases h.2.2 with h2 |⟨g,cap,cur,h1,h2,h3,h4⟩
 ·exact .inl h2
 ·refine .inr ⟨g,cap,cur,h1,h2,he.blk h3 ?_,h4⟩;rintro rfl;unfold Bx at hp;rw[h3]at hp;simp only[Option.some.injEq,Obj.cells.injEq]at hp;exact ht hp.2.1.symm
theorem LS.opn(h:LS e n B w v vs):∃ad cap,v= .slice ad vs.length cap∧vs.length≤cap∧cap≤9223372036854775807∧(∀g,v.ownBlock=some g→ad=some ⟨g,0,none⟩∧B≤g∧g<w.heap.size∧∃cs,Bx e w g cs):=by
 rcases h.2.2 with⟨h1,h2⟩ |⟨g,cap,cur,h1,h2,h3,h4,h5,h6⟩
 ·refine⟨none,0,by rw[h1,h2],by omega,by omega,fun g hg=> ?_⟩;rw[h1]at hg
  cases hg
 ·refine⟨_,cap,h1,h4,by unfold maxLen at h5;omega,fun g' hg=> ?_⟩;rw[h1]at hg;simp only[Value.ownBlock,Option.some.injEq]at hg;subst hg;exact⟨rfl,h2,blk_lt h3,_,h3⟩
theorem LS.hold(h:LS e n B w v vs)(h0:0<vs.length):∃g cap rest,v= .slice (some ⟨g,0,none⟩) vs.length cap∧B≤g∧vs.length≤cap∧cap≤9223372036854775807∧vs.length*n+rest.length=cap*n∧Bx e w g (flatS vs++rest).toArray:=by
 rcases h.2.2 with⟨h1,h2⟩ |⟨g,cap,cur,h1,h2,h3,h4,h5,h6,h7⟩
 ·omega
 ·refine⟨g,cap,cur.toList.drop (vs.length*n),h1,h2,h4,by unfold maxLen at h5;omega,?_,?_⟩
  ·have h9:cur.toList.length=cap*n:=by rw[Array.length_toList];exact h6
   rw[List.length_drop,h9]
   have:=Nat.mul_le_mul_right n h4
   omega
  ·rw[←h7,List.take_append_drop];exact h3
theorem LS.of_hold{g cap:Nat}{rest:List Value}(h5:StrN n vs)(hB:B≤g)(hc:vs.length≤cap)(hm:cap≤9223372036854775807)(hl:vs.length*n+rest.length=cap*n)(hb:Bx e w g (flatS vs++rest).toArray):LS e n B w (.slice (some ⟨g,0,none⟩) vs.length cap) vs:=by
 have hf:=flatS_len h5.size;refine⟨h5,hf,.inr ⟨g,cap,_,rfl,hB,hb,hc,by unfold maxLen;omega,?_,?_⟩⟩
 ·simp only[List.size_toArray,List.length_append,hf];exact hl
 ·show(flatS vs++rest).take (vs.length*n)=flatS vs
  rw[List.take_append_of_le_length (by omega),List.take_of_length_le (by omega)]
theorem LS.at(hn:0<n)(h:LS e n B w v vs){i:Nat}{u:Value}(hi:vs[i]? =some u):∃g cap,v= .slice (some ⟨g,0,none⟩) vs.length cap∧B≤g∧∃cs:Array Value,u= .agg cs∧cs.size=n∧cs.all (·.oneCell')=true∧∀wz,Ext w wz→∀(j:Nat) (x:Value),cs[j]? =some x→wz.cell? ⟨g,i*n+j,none⟩=some x∧wz.frozen? ⟨g,i*n+j,none⟩=false:=by
 obtain⟨hil, -⟩:=List.getElem?_eq_some_iff.1 hi;obtain⟨g,cap,rest,h1,h2,h3,h4,h5,h6⟩:=h.hold (by omega);obtain⟨cs,rfl,hc,ho⟩:=h.1 u (List.mem_of_getElem? hi);refine⟨g,cap,h1,h2,cs,rfl,hc,ho,fun wz hz j x hj=> ?_⟩
 have hjn:j<n:=by rw[←hc];exact(Array.getElem?_eq_some_iff.1 hj).1
 have hb:=h6.ext hz
 constructor
 ·rw[cell_of_row wz g _ _ _ _ hb,List.getElem?_toArray,List.getElem?_append_left,flatS_get hn h.1.size hi j hjn,hj];rw[flatS_len h.1.size]
  have:=Nat.mul_le_mul_right n (show i+1≤vs.length by omega)
  rw[Nat.succ_mul]at this
  omega
 ·exact hb.free _
theorem LS.set(h:LS e n B w v vs){i:Nat}{u:Value}(hu:StrN n [u])(hi:i<vs.length){g:Nat}(hg:v.ownBlock=some g)(hw:∀rest:List Value,Bx e w g (flatS vs++rest).toArray→Bx e w' g (laidS (flatS vs++rest) (i*n) u.cells.toList).toArray):LS e n B w' v (vs.set i u):=by
 obtain⟨g',cap',rest,h1,h2,h3,h4,h5,h6⟩:=h.hold (by omega);rw[h1]at hg;simp only[Value.ownBlock,Option.some.injEq]at hg;subst hg;have h7:=hw rest h6;rw[laidS_flat h.1.size hi (hu.size _ (List.mem_singleton.2 rfl))]at h7
 have:=LS.of_hold (e:=e) (n:=n) (B:=B) (w:=w') (vs:=vs.set i u) (g:=g') (cap:=cap') (rest:=rest) (h.1.set hu i) h2 (by rw[List.length_set];exact h3) h4 (by rw[List.length_set];exact h5) h7
 rw[List.length_set]at this;rw[h1];exact this
end
theorem wpList_append_LS{P:Program}{w:World}{ops:Array Oper}{rest:List Oper}{o:Oper}{a:Act}{Q:Exit→Act→World→Prop}(hgd:o.guard=none)(s x:Operand)(t:TypeId)
  (ho:o.op= .call {callee:= .builtin .append,args:=#[s,x],argTypes:=#[t,t]})
  (e:TypeId) (n bytes B:Nat) (ht:P.underlying t=some (.slice e)) (hi:(P.info? e).map (fun i=>(i.size,i.bytes))=some (n,bytes)) (hz:((P.info? e).bind (·.zero)).map (fun z=>z.cells.size)=some n) (hn:0<n)
  (v:Value) (vs:List Value) (hs:a.eval s=v) (hown:LS e n B w v vs)
  (ad:Addr) (cs:Array Value) (hx:a.eval x= .slice (some ad) 1 1) (hl:cs.size=n) (hnews:∀(j:Nat) (u:Value),cs[j]? =some u→w.cell? (ad.add j)=some u) (h1:cs.all (·.oneCell')=true)
  (hbytes:(vs.length+1)*bytes≤140737488355328) (h63:vs.length+1≤140737488355328) (hbase:B≤w.heap.size)
  (h:∀g cap w',LS e n B w' (.slice (some ⟨g,0,none⟩) (vs.length+1) cap) (vs++ [.agg cs])→w.grownBy w' v.ownBlock→(v.ownBlock=some g∨g=w.heap.size)→g<w'.heap.size→wpList P ops Q rest (a.put o.dst (.slice (some ⟨g,0,none⟩) (vs.length+1) cap)) w'):
  wpList P ops Q (o::rest) a w:=by
 cases hie:P.info? e with
 |none=>simp [hie]at hi
 |some i=>
  simp only[hie,Option.map_some,Option.some.injEq,Prod.mk.injEq]at hi
  cases hiz:i.zero with
  |none=>simp [hie,hiz]at hz
  |some z=>
   simp only[hie,hiz,Option.bind_some,Option.map_some,Option.some.injEq]at hz
   refine wpList_append_lies w hgd s x t ho B e i z n bytes ht hie hiz hi.1 hi.2 hz hn v vs.length (flatS vs) hs hown.2 ad 1 1 cs.toList hx (by rw[Array.length_toList,hl,Nat.one_mul]) (fun j u hj=>hnews j u (by rwa [Array.getElem?_toList]at hj)) (fun u hu=>Array.all_eq_true'.1 h1 u (Array.mem_toList_iff.1 hu)) (by omega) (by unfold maxLen;omega) hbytes hbase _ rfl fun g cap w' k1 k2 k3 k4=> ?_
   refine h g cap w' ⟨hown.1.app (.one hl h1),?_⟩ k2 k3 k4;rw[List.length_append,flatS_append]
   have:flatS [Value.agg cs]=cs.toList:=by
    show cs.toList++ []=_
    rw[List.append_nil]
   rw[this];exact k1
theorem IsR.parts{w:World}{v:Value}{x:Rat}{k:Nat}(h:IsR w v x k):∃b ad n cap ad2 n2 cap2,v= .agg #[.bool b,.slice ad n cap,.slice ad2 n2 cap2]:=by
 obtain⟨n,d,⟨b,s,t,m,d0,rfl,⟨xs,⟨ad,cap,rfl, -⟩, -⟩, -,⟨ys,⟨ad2,cap2,rfl, -⟩, -⟩, -⟩, -⟩:=h;exact⟨_,_,_,_,_,_,_,rfl⟩
theorem wpList_append_V{P:Program}{w:World}{ops:Array Oper}{rest:List Oper}{o:Oper}{a:Act}{Q:Exit→Act→World→Prop}(hgd:o.guard=none)(s x:Operand)(t:TypeId)
  (ho:o.op= .call {callee:= .builtin .append,args:=#[s,x],argTypes:=#[t,t]})
  (e:TypeId) (bytes B:Nat) (ht:P.underlying t=some (.slice e)) (hi:(P.info? e).map (fun i=>(i.size,i.bytes))=some (1,bytes)) (hz:((P.info? e).bind (·.zero)).map (fun z=>z.cells.size)=some 1)
  (v:Value) (n:Nat) (xs:List Value) (hs:a.eval s=v) (hown:w.ownsRow B e 1 v n xs)
  (ad:Addr) (u:Value) (hx:a.eval x= .slice (some ad) 1 1) (hnews:∀(j:Nat) (y:Value),[u][j]? =some y→w.cell? (ad.add j)=some y) (h1:u.oneCell'=true)
  (hbytes:(n+1)*bytes≤140737488355328) (h63:n+1≤140737488355328) (hbase:B≤w.heap.size)
  (h:∀g cap w',w'.ownsRow B e 1 (.slice (some ⟨g,0,none⟩) (n+1) cap) (n+1) (xs++ [u])→w.grownBy w' v.ownBlock→(v.ownBlock=some g∨g=w.heap.size)→g<w'.heap.size→wpList P ops Q rest (a.put o.dst (.slice (some ⟨g,0,none⟩) (n+1) cap)) w'):
  wpList P ops Q (o::rest) a w:=by
 cases hie:P.info? e with
 |none=>simp [hie]at hi
 |some i=>
  simp only[hie,Option.map_some,Option.some.injEq,Prod.mk.injEq]at hi
  cases hiz:i.zero with
  |none=>simp [hie,hiz]at hz
  |some z=>
   simp only[hie,hiz,Option.bind_some,Option.map_some,Option.some.injEq]at hz;exact wpList_append_lies w hgd s x t ho B e i z 1 bytes ht hie hiz hi.1 hi.2 hz (by omega) v n xs hs hown ad 1 1 [u] hx rfl hnews (fun y hy=>by rw[List.mem_singleton]at hy;rw[hy];exact h1) (by omega) (by unfold maxLen;omega) hbytes hbase _ rfl h
theorem news_new(w:World)(t:TypeId)(cs:Array Value):∀(j:Nat) (u:Value),cs[j]? =some u→(w.alloc (.cells cs t)).cell? ((⟨w.heap.size,0,none⟩:Addr).add j)=some u:=by
 intro j u hj;rw[Addr.add_lit,Nat.zero_add,(Bx.new w t cs).cell j];exact hj
theorem Ext.stepG{a w w':World}{row:Option Nat}(h:Ext a w)(k:w.grownBy w' row)(hg:∀g,row=some g→a.heap.size≤g):Ext a w':=by
 cases row with
 |none=>exact h.trans k
 |some g=>exact h.step k (hg g rfl)
def Ris{α:Type}(key:α→Int)(l:List α):Prop:=l.Pairwise fun x y=>key x≤key y
section
variable {α:Type} {key:α→Int}
theorem Ris.nil:Ris key ([]:List α):=List.Pairwise.nil
theorem Ris.one(x:α):Ris key [x]:=List.pairwise_singleton _ _
theorem ris_append{l m:List α}:Ris key (l++m)↔Ris key l∧Ris key m∧∀x∈l,∀y∈m,key x≤key y:=List.pairwise_append
theorem Ris.of_short{l:List α}(h:l.length≤1):Ris key l:=by
 match l,h with
 | [],_=>exact .nil
 | [x],_=>exact .one x
theorem Ris.take{l:List α}(h:Ris key l)(i:Nat):Ris key (l.take i):=List.Pairwise.sublist (List.take_sublist i l) h
theorem Ris.drop{l:List α}(h:Ris key l)(i:Nat):Ris key (l.drop i):=List.Pairwise.sublist (List.drop_sublist i l) h
theorem Ris.le{l:List α}(h:Ris key l){i j:Nat}{x y:α}(hij:i≤j)(hx:l[i]? =some x)(hy:l[j]? =some y):key x≤key y:=by
 obtain⟨hi,rfl⟩:=List.getElem?_eq_some_iff.1 hx;obtain⟨hj,rfl⟩:=List.getElem?_eq_some_iff.1 hy
 rcases Nat.eq_or_lt_of_le hij with rfl |hlt
 ·exact Int.le_refl _
 ·exact List.pairwise_iff_getElem.1 h i j hi hj hlt
theorem cross{L R:List α}(hL:Ris key L)(hR:Ris key R)(i j:Nat)(h:i=0∨R.length≤j∨∃x y,L[i - 1]? =some x∧R[j]? =some y∧key x≤key y):∀x∈L.take i,∀y∈R.drop j,key x≤key y:=by
 intro x hx y hy;obtain⟨p,hp,hpx⟩:=List.mem_iff_getElem.1 hx;obtain⟨q,hq,hqy⟩:=List.mem_iff_getElem.1 hy;rw[List.length_take]at hp;rw[List.length_drop]at hq
 rcases h with h |h |⟨u,v,hu,hv,huv⟩
 ·omega
 ·omega
 ·rw[List.getElem_take]at hpx;rw[List.getElem_drop]at hqy;have h1:=hL.le (i:=p) (j:=i - 1) (x:=x) (by omega) (List.getElem?_eq_some_iff.2 ⟨by omega,hpx⟩) hu;have h2:=hR.le (i:=j) (j:=j+q) (y:=y) (by omega) hv (List.getElem?_eq_some_iff.2 ⟨by omega,hqy⟩)
  omega
theorem merged{L R M1 M2:List α}(hL:Ris key L)(hR:Ris key R)(i j:Nat)
  (h1:i=0∨R.length≤j∨∃x y,L[i - 1]? =some x∧R[j]? =some y∧key x≤key y)
  (h2:j=0∨L.length≤i∨∃x y,R[j - 1]? =some x∧L[i]? =some y∧key x≤key y)
  (p1:M1.Perm (L.take i++R.take j)) (p2:M2.Perm (L.drop i++R.drop j)) (s1:Ris key M1) (s2:Ris key M2):(M1++M2).Perm (L++R)∧Ris key (M1++M2):=by
 constructor
 ·refine(p1.append p2).trans ?_;refine(List.Perm.trans ?_ (List.Perm.of_eq (show(L.take i++L.drop i)++(R.take j++R.drop j)=L++R by rw[List.take_append_drop,List.take_append_drop])));simp only[List.append_assoc];refine List.Perm.append_left _ ?_;rw[←List.append_assoc,←List.append_assoc];exact List.Perm.append_right _ List.perm_append_comm
 ·refine ris_append.2 ⟨s1,s2,fun x hx y hy=> ?_⟩;have hx':=p1.mem_iff.1 hx;have hy':=p2.mem_iff.1 hy
  rcases List.mem_append.1 hx' with hx' |hx'<;>rcases List.mem_append.1 hy' with hy' |hy'
  ·have:=hL
   rw[←List.take_append_drop i L]at this;exact(ris_append.1 this).2.2 x hx' y hy'
  ·exact cross hL hR i j h1 x hx' y hy'
  ·exact cross hR hL j i h2 x hx' y hy'
  ·have:=hR
   rw[←List.take_append_drop j R]at this;exact(ris_append.1 this).2.2 x hx' y hy'
theorem putin{L:List α}{y:α}(hL:Ris key L)(i:Nat)(h1:i=0∨∃x,L[i - 1]? =some x∧key x≤key y)(h2:L.length≤i∨∃x,L[i]? =some x∧key y≤key x):Ris key (L.take i++ [y]++L.drop i):=by
 have hR:Ris key [y]:= .one y
 have c1:=cross hL hR i 0 (by
  rcases h1 with h1 |⟨x,h1,h3⟩
  ·exact .inl h1
  ·exact .inr (.inr ⟨x,y,h1,rfl,h3⟩))
 have c2:=cross hR hL 1 i (by
  rcases h2 with h2 |⟨x,h2,h3⟩
  ·exact .inr (.inl h2)
  ·exact .inr (.inr ⟨y,x,rfl,h2,h3⟩))
 have hs:=hL;rw[←List.take_append_drop i L]at hs;obtain⟨s1,s2,s3⟩:=ris_append.1 hs;refine ris_append.2 ⟨ris_append.2 ⟨s1,hR,fun x hx z hz=>c1 x hx z hz⟩,s2,fun x hx z hz=> ?_⟩
 rcases List.mem_append.1 hx with hx |hx
 ·exact s3 x hx z hz
 ·exact c2 x hx z hz
theorem putin_perm{L:List α}{y:α}(i:Nat):(L.take i++ [y]++L.drop i).Perm (L++ [y]):=by
 refine(List.Perm.trans ?_ (List.Perm.of_eq (show L.take i++(L.drop i++ [y])=L++ [y]by rw[←List.append_assoc,List.take_append_drop])));rw[List.append_assoc];exact List.Perm.append_left _ List.perm_append_comm
theorem set_split{P Q S:List α}{x y:α}{i k:Nat}(hi:i=P.length)(hk:k=P.length+1+Q.length):((P++x::(Q++y::S)).set i y).set k x=P++y::(Q++x::S):=by
 subst hi
 have e1:(P++x::(Q++y::S)).set P.length y=P++y::(Q++y::S):=by
  rw[List.set_append_right _ _ (Nat.le_refl _),Nat.sub_self,List.set_cons_zero]
 rw[e1,List.set_append_right _ _ (by omega),show k - P.length=Q.length+1 by omega,List.set_cons_succ,List.set_append_right _ _ (Nat.le_refl _),Nat.sub_self,List.set_cons_zero]
inductive Blk (key:α→Int) (bs:Nat):List α→Prop
 |short (l:List α):l.length≤bs→Ris key l→Blk key bs l
 |cons (c l:List α):c.length=bs→Ris key c→Blk key bs l→Blk key bs (c++l)
inductive Ful (key:α→Int) (bs:Nat):List α→Prop
 |nil:Ful key bs []
 |snoc (l c:List α):c.length=bs→Ris key c→Ful key bs l→Ful key bs (l++c)
theorem Ful.blk{bs:Nat}{l m:List α}(h:Ful key bs l)(k:Blk key bs m):Blk key bs (l++m):=by
 induction h generalizing m with
 |nil=>exact k
 |snoc l c h1 h2 _ ih=>
  rw[List.append_assoc];exact ih (.cons c m h1 h2 k)
theorem Blk.first{bs:Nat}{l:List α}(h:Blk key bs l)(h0:0<bs)(hl:bs≤l.length):∃c m,l=c++m∧c.length=bs∧Ris key c∧Blk key bs m:=by
 cases h with
 |short _ h1 h2=>exact ⟨l,[],by simp,by omega,h2,.short _ (Nat.zero_le _) .nil⟩
 |cons c m h1 h2 h3=>exact ⟨c,m,rfl,h1,h2,h3⟩
theorem Blk.all{bs:Nat}{l:List α}(h:Blk key bs l)(h0:0<bs)(hl:l.length≤bs):Ris key l:=by
 cases h with
 |short _ h1 h2=>exact h2
 |cons c m h1 h2 h3=>
  have:m=[]:=List.eq_nil_of_length_eq_zero (by rw[List.length_append]at hl;omega)
  subst this;rw[List.append_nil];exact h2
end
theorem flatS_inj{n:Nat}:∀{vs us:List Value},StrN n vs→StrN n us→vs.length=us.length→flatS vs=flatS us→vs=us
 | [],[],_,_,_,_=>rfl
 | [],_::_,_,_,h,_=>by simp at h
 |_::_,[],_,_,h,_=>by simp at h
 |v::vs,u::us,h1,h2,h3,h4=>by
  obtain⟨cs,rfl,hc, -⟩:=h1 v (List.mem_cons_self ..);obtain⟨ds,rfl,hd, -⟩:=h2 u (List.mem_cons_self ..);unfold flatS at h4;rw[List.flatMap_cons,List.flatMap_cons]at h4;have h5:=List.append_inj h4 (by show cs.toList.length=ds.toList.length;rw[Array.length_toList,Array.length_toList,hc,hd])
  have hcd:cs=ds:=Array.toList_inj.1 h5.1
  rw[flatS_inj (vs:=vs) (us:=us) (fun v hv=>h1 v (List.mem_cons_of_mem _ hv)) (fun v hv=>h2 v (List.mem_cons_of_mem _ hv)) (by simpa using h3) h5.2,hcd]
def HoldS(e:TypeId)(n g:Nat)(rest:List Value)(w:World)(vs:List Value):Prop:=StrN n vs∧Bx e w g (flatS vs++rest).toArray
section
variable {e:TypeId} {n:Nat}
theorem HoldS.inj{g:Nat}{rest:List Value}{w:World}{vs us:List Value}(h:HoldS e n g rest w vs)(k:HoldS e n g rest w us)(hl:vs.length=us.length):vs=us:=by
 obtain⟨h1,h2⟩:=h;obtain⟨k1,k2⟩:=k;unfold Bx at h2 k2;rw[h2]at k2;simp only[Option.some.injEq,Obj.cells.injEq,and_true]at k2
 have:=congrArg Array.toList k2
 simp only[List.append_cancel_right_eq]at this;exact flatS_inj h1 k1 hl this
theorem HoldS.ext{g:Nat}{rest:List Value}{w w':World}{vs:List Value}(h:HoldS e n g rest w vs)(he:Ext w w'):HoldS e n g rest w' vs:=⟨h.1,h.2.ext he⟩
theorem HoldS.cell{g:Nat}{rest:List Value}{w:World}{vs:List Value}(hn:0<n)(h:HoldS e n g rest w vs){i:Nat}{cs:Array Value}(hi:vs[i]? =some (.agg cs)):∀(j:Nat) (v:Value),cs[j]? =some v→w.cell? ⟨g,i*n+j,none⟩=some v:=by
 intro j v hj;obtain⟨cs',hcs,hsz, -⟩:=h.1 _ (List.mem_of_getElem? hi)
 cases hcs
 have hj5:j<n:=by rw[←hsz];exact(Array.getElem?_eq_some_iff.1 hj).1
 have hil:=(List.getElem?_eq_some_iff.1 hi).1;rw[cell_of_row w g _ _ _ _ h.2,List.getElem?_toArray,List.getElem?_append_left,flatS_get hn h.1.size hi j hj5,hj];rw[flatS_len h.1.size]
 have:=Nat.mul_le_mul_right n (show i+1≤vs.length by omega)
 rw[Nat.succ_mul]at this
 omega
theorem run_storeVar_at{P:Program}(w:World)(g off:Nat)(t ty:TypeId)(cur:List Value)(cs:Array Value)(hg:w.heap[g]? =some (.cells cur.toArray t (0,0)))(hi:(P.info? ty).map (·.size)=some cs.size)(hfit:off+cs.size≤cur.length)(h1:cs.all (·.oneCell')=true):
  (storeVar ty ⟨g,off,none⟩ (.agg cs)).run P w= .ok () (w.setRow g (laidS cur off cs.toList).toArray):=by
 have hst:=run_storeCells_at P g off t cs.toList 0 cur.toArray w hg (by simpa using hfit) (fun u hu=>by
  have:=Array.all_eq_true'.1 h1 u (Array.mem_toList_iff.1 hu)
  exact this)
 cases hq:P.info? ty with
 |none=>simp [hq]at hi
 |some i=>
  have hs:i.size=cs.size:=by simpa[hq]using hi
  have hc:(Value.agg cs).cells=cs:=rfl
  simp only[Nat.add_zero]at hst
  simp[storeVar,sizeOf,typeInfo,hq,hc,hs,laidS,hst]
def stS(e:TypeId)(n g N:Nat)(rest vs:List Value)(s i:Nat)(v:Value):Sm:=
 ⟨s,g,fun a b=>∀us,us.length=N→HoldS e n g rest a us→HoldS e n g rest b (us.set i v),fun _ b=>∃us,us.length=N∧HoldS e n g rest b us∧us[i]? =vs[i]?,fun _ b=>∃us,us.length=N∧HoldS e n g rest b us∧us[i]? =some v⟩
def inS(e:TypeId)(n g N:Nat)(rest vs:List Value)(i k:Nat)(b:World):Prop:=∃us,us.length=N∧HoldS e n g rest b us∧∀j,j≠i→j≠k→us[j]? =vs[j]?
theorem og_stS{P:Program}{o:Oper}{a:Act}{f:Nat→Value}{w:World}(g N:Nat)(rest vs:List Value)(s i p q:Nat)(v:Value)(ty:TypeId)(x y:Operand)(hgd:o.guard=none)(ho:o.op= .store ty x y)(hx:a.eval x= .pointer (some ⟨g,i*n,none⟩))(hy:a.eval y=v)
  (hi:i<N) (hty:(P.info? ty).map (·.size)=some n) (h5:StrN n [v]) (hI:inS e n g N rest vs p q w):OpGoal P o a f w (fun a b=>(stS e n g N rest vs s i v).R a b∧Chg g a b) (fun u w2=>(stS e n g N rest vs s i v).F u w2):=by
 obtain⟨us,hl,hH, -⟩:=hI;obtain⟨cs,rfl,hcs,hc1⟩:=h5 v (List.mem_singleton.2 rfl);have hlen:=flatS_len hH.1.size;have hmul:=Nat.mul_le_mul_right n (show i+1≤us.length by omega);rw[Nat.succ_mul]at hmul;have hrun:=run_storeVar_at (P:=P) w g (i*n) e ty _ cs hH.2 (by rw[hcs];exact hty) (by rw[List.length_append,hlen,hcs];omega) hc1;have hsp:=laidS_flat (rest:=rest) (i:=i) (v:= .agg cs) hH.1.size (by omega) hcs
 have hcc:(Value.agg cs).cells=cs:=rfl
 rw[hcc]at hsp;rw[hsp]at hrun;have hH2:HoldS e n g rest (w.setRow g (flatS (us.set i (.agg cs))++rest).toArray) (us.set i (.agg cs)):=⟨hH.1.set h5 i,hH.2.setRow _⟩;unfold OpGoal;rw[hgd];unfold Oper.wp execOp;simp only[ho,hx,hy,Instr.storeAt,Instr.sureAddr,Sem.run_bind,Sem.run_pure,Result.andThen_ok,hrun];refine⟨_,rfl,⟨fun us' hl' hH'=> ?_,Chg.setRow w g _⟩,_,by rw[List.length_set];exact hl,hH2,by rw[List.getElem?_set_self (by omega)]⟩;rw[hH'.inj hH (by omega)];exact hH2
theorem wp_region_swpS{P:Program}{id:Nat}{l:List Oper}{Q:Exit→Act→World→Prop}{tmps:Array Value}{df:List Deferred}{w:World}{fr:(Nat→Value)→Array Value}
  (g N i k s1 s2:Nat) (rest vs:List Value) (va vb:Value) (L:List (PP w.heap.size)) (lates:List (Nat×Nat×Nat)) (pre:List Nat)
  (hm:P.follows .mixedOrders=true) (hok:(regOk l.toArray tmps.size&&lateOk l.toArray lates&&([stS e n g N rest vs s1 i vb,stS e n g N rest vs s2 k va].map (·.s)).all fun s=>ancOk l.toArray [s] (pre.filter (· !=s)))=true)
  (hfr:∀f,fillR l.toArray tmps f=fr f)
  (hik:i≠k) (hss:s1≠s2) (hN:vs.length=N) (hH:HoldS e n g rest w vs) (hi:i<N) (hk:k<N) (hL:∀p∈L,p.c=false)
  (hstep:OwesM P fr df w [stS e n g N rest vs s1 i vb,stS e n g N rest vs s2 k va] (inS e n g N rest vs i k) L lates tmps pre l 0)
  (hend:∀f w1,Chg g w w1→HoldS e n g rest w1 ((vs.set i vb).set k va)→AllPosts (postM [stS e n g N rest vs s1 i vb,stS e n g N rest vs s2 k va] L) f w1 l.length 0→Q .normal ⟨fr f,df⟩ w1)
  (hs1:s1<l.length) (hs2:s2<l.length):
  (Code.region id l.toArray true).wp P Q ⟨tmps,df⟩ w:=by
 have hlt:=blk_lt hH.2
 have hmem:∀x∈ [stS e n g N rest vs s1 i vb,stS e n g N rest vs s2 k va],x=stS e n g N rest vs s1 i vb∨x=stS e n g N rest vs s2 k va:=fun x hx=>by simpa using hx
 have hat1:smAt [stS e n g N rest vs s1 i vb,stS e n g N rest vs s2 k va] s1=some (stS e n g N rest vs s1 i vb):=by simp[smAt,stS]
 have hat2:smAt [stS e n g N rest vs s1 i vb,stS e n g N rest vs s2 k va] s2=some (stS e n g N rest vs s2 k va):=by simp[smAt,stS,Ne.symm hss]
 have getset:∀(us:List Value) (p q:Nat) (v:Value),q≠p→(us.set p v)[q]? =us[q]? :=fun us p q v h=>List.getElem?_set_ne (by omega)
 refine wp_region_mut [stS e n g N rest vs s1 i vb,stS e n g N rest vs s2 k va] (inS e n g N rest vs i k) L lates pre hm hok hfr ?_ ?_ hL ⟨vs,hN,hH,fun _ _ _=>rfl⟩ ?_ ?_ ?_ ?_ ?_ ?_ ?_ ?_ hstep ?_
 ·intro x hx
  rcases hmem x hx with rfl |rfl<;>exact hlt
 ·intro x hx
  rcases hmem x hx with rfl |rfl
  ·exact hat1
  ·exact hat2
 ·rintro w1 w2 he ⟨us,h1,h2,h3⟩;exact⟨us,h1,h2.ext he,h3⟩
 ·intro x hx w1 w2 hch hR hI;obtain⟨us,h1,h2,h3⟩:=hI
  rcases hmem x hx with rfl |rfl
  ·exact⟨_,by rw[List.length_set];exact h1,hR us h1 h2,fun j hj hj2=>by rw[getset _ _ _ _ hj];exact h3 j hj hj2⟩
  ·exact⟨_,by rw[List.length_set];exact h1,hR us h1 h2,fun j hj hj2=>by rw[getset _ _ _ _ hj2];exact h3 j hj hj2⟩
 ·intro x hx v w1 w2 he hF
  rcases hmem x hx with rfl |rfl<;>(obtain⟨us,h1,h2,h3⟩:=hF;exact⟨us,h1,h2.ext he,h3⟩)
 ·intro x hx y hy hne v w1 w2 hch hR hF
  rcases hmem x hx with rfl |rfl<;>rcases hmem y hy with rfl |rfl
  ·exact absurd rfl hne
  ·obtain⟨us,h1,h2,h3⟩:=hF;exact⟨_,by rw[List.length_set];exact h1,hR us h1 h2,by rw[getset _ _ _ _ hik];exact h3⟩
  ·obtain⟨us,h1,h2,h3⟩:=hF;exact⟨_,by rw[List.length_set];exact h1,hR us h1 h2,by rw[getset _ _ _ _ (Ne.symm hik)];exact h3⟩
  ·exact absurd rfl hne
 ·intro x hx
  rcases hmem x hx with rfl |rfl<;>exact ⟨vs,hN,hH,rfl⟩
 ·intro x hx w1 w2 _ he hU
  rcases hmem x hx with rfl |rfl<;>(obtain⟨us,h1,h2,h3⟩:=hU;exact⟨us,h1,h2.ext he,h3⟩)
 ·intro x hx y hy hne w1 w2 _ hch hR hU
  rcases hmem x hx with rfl |rfl<;>rcases hmem y hy with rfl |rfl
  ·exact absurd rfl hne
  ·obtain⟨us,h1,h2,h3⟩:=hU;exact⟨_,by rw[List.length_set];exact h1,hR us h1 h2,by rw[getset _ _ _ _ hik];exact h3⟩
  ·obtain⟨us,h1,h2,h3⟩:=hU;exact⟨_,by rw[List.length_set];exact h1,hR us h1 h2,by rw[getset _ _ _ _ (Ne.symm hik)];exact h3⟩
  ·exact absurd rfl hne
 ·rintro w1 hG ⟨us,h1,h2,h3⟩ hU;obtain⟨us1,a1,a2,a3⟩:=hU (stS e n g N rest vs s1 i vb) (by simp);obtain⟨us2,b1,b2,b3⟩:=hU (stS e n g N rest vs s2 k va) (by simp);have e1:=a2.inj h2 (by omega);have e2:=b2.inj h2 (by omega);subst e1 e2
  have huv:us2=vs:=by
   apply List.ext_getElem?
   intro j
   by_cases hj:j=i
   ·rw[hj];exact a3
   ·by_cases hj2:j=k
    ·rw[hj2];exact b3
    ·exact h3 j hj hj2
  subst huv;refine⟨hG.1,hG.2.1,hG.2.2.1,hG.2.2.2.1,fun j hj _=> ?_⟩
  by_cases hjg:j=g
  ·rw[hjg];exact h2.2.trans hH.2.symm
  ·exact hG.2.2.2.2 j hj (by simp[stS];exact hjg)
 ·intro f w1 hG hI hp;obtain⟨us,h1,h2,h3⟩:=hI;obtain⟨us1,a1,a2,a3⟩:=endMS hp s1 hs1 hat1;obtain⟨us2,b1,b2,b3⟩:=endMS hp s2 hs2 hat2;have e1:=a2.inj h2 (by omega);have e2:=b2.inj h2 (by omega);subst e1 e2
  have huv:us2=(vs.set i vb).set k va:=by
   apply List.ext_getElem?
   intro j
   by_cases hj2:j=k
   ·rw[hj2,List.getElem?_set_self (by rw[List.length_set];omega)];exact b3
   ·rw[getset _ _ _ _ hj2]
    by_cases hj:j=i
    ·rw[hj,List.getElem?_set_self (by omega)];exact a3
    ·rw[getset _ _ _ _ hj];exact h3 j hj hj2
  refine hend f w1 ⟨hG.1,hG.2.1,hG.2.2.1,hG.2.2.2.1,fun j hj hne=>hG.2.2.2.2 j hj (by simp[stS];exact fun h=>hne (by rw[h]))⟩ (huv▸h2) hp
end
theorem og_callv{P:Program}{o:Oper}{a:Act}{f:Nat→Value}{w:World}{post:Value→World→Prop}{fn:Func}(F:FuncId)(x:Operand)(xs:Array Operand)(ts:Array TypeId)(args:Array Value)(hf:P.funcs[F]? =some fn)(hn:(fn.name== "runtime.NumGoroutine")=false)(hb:fn.body.isNone=false)(hgd:o.guard=none)(ho:o.op= .call {callee:= .value x,args:=xs,argTypes:=ts})
  (hx:a.eval x= .func (.func F) #[] #[]) (ha:xs.map a.eval=args) (hc:Calls P F args w fun e w'=>∃v,e= .returned v∧Ext w w'∧post v w'):OpGoal P o a f w Ext post:=by
 unfold OpGoal;rw[hgd];unfold Oper.wp
 have hrun:(execOp a.eval o).run P w= .ok (.enter F args) w:=by
  subst ha
  have h1:fn.name≠ "runtime.NumGoroutine" :=by simpa using hn
  have h2:¬fn.body=none:=by intro h;simp[h]at hb
  simp[execOp,ho,resolve,hx,Deferred.ofValue,invoke,callFunc,hf,h1,h2]
 rw[hrun,Oper.upon_enter];refine hc.mono ?_;rintro e w' ⟨v,rfl,h1,h2⟩;exact⟨v,rfl,h1,h2⟩
theorem og_skip{P:Program}{o:Oper}{a:Act}{f:Nat→Value}{w:World}{R:World→World→Prop}{post:Value→World→Prop}{j:Nat}{want b:Bool}(hg:o.guard=some (j,want))(hf:f j= .bool b)(hb:b≠want)(hu:post undef w):OpGoal P o a f w R post:=by
 unfold OpGoal;rw[hg];exact⟨fun h=>absurd (by rw[hf]at h;cases h;rfl) hb,fun _=>hu⟩
end Go.Proofs.YtbmnlaepfckmkaaGreat
