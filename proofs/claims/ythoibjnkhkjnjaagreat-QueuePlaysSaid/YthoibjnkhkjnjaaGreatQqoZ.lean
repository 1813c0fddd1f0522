/-
 Lists of structs of n cells in memory of one's own: read, stored into, appended to, cut.
-/
import Derived.Test.YthoibjnkhkjnjaaGreatComZ
import Derived.Deep.AppendLies
import Derived.Laws.OwnMore
import Derived.Test.YthoibjnkhkjnjaaGreatQqlZ
import Derived.Sort.OwnSortedInts
namespace Go.Proofs.YthoibjnkhkjnjaaGreat
set_option maxRecDepth 100000
set_option maxHeartbeats 1000000
open Go.RowKit
set_option linter.unusedVariables false
set_option linter.unusedSimpArgs false
def flatS(vs:List Value):List Value:=vs.flatMap fun v=>v.cells.toList
def StrN(n:Nat)(vs:List Value):Prop:=∀v∈vs,∃cs:Array Value,v= .agg cs∧cs.size=n∧cs.all (·.oneCell')=true
theorem StrN.size{n:Nat}{vs:List Value}(h:StrN n vs):∀v∈vs,v.cells.size=n:=fun v hv=>by
 obtain⟨cs,rfl,h1, -⟩:=h v hv;exact h1
theorem StrN.nil(n:Nat):StrN n []:=fun v hv=>by cases hv
theorem StrN.app{n:Nat}{vs us:List Value}(h:StrN n vs)(k:StrN n us):StrN n (vs++us):=fun v hv=>by
 rcases List.mem_append.1 hv with hv |hv
 ·exact h v hv
 ·exact k v hv
theorem StrN.one{n:Nat}{cs:Array Value}(h:cs.size=n)(k:cs.all (·.oneCell')=true):StrN n [.agg cs]:=fun v hv=>by
 rw[List.mem_singleton]at hv;exact⟨cs,hv,h,k⟩
theorem flatS_len{n:Nat}{vs:List Value}(h:∀v∈vs,v.cells.size=n):(flatS vs).length=vs.length*n:=by
 induction vs with
 |nil=>simp [flatS]
 |cons v vs ih=>
  unfold flatS at ih ⊢;rw[List.flatMap_cons,List.length_append,ih fun u hu=>h u (List.mem_cons_of_mem _ hu),Array.length_toList,h v (List.mem_cons_self ..),List.length_cons,Nat.add_mul,Nat.one_mul]
  omega
theorem flatS_append(vs us:List Value):flatS (vs++us)=flatS vs++flatS us:=by simp[flatS]
theorem flatS_take{n:Nat}{vs:List Value}(h:∀v∈vs,v.cells.size=n)(i:Nat):(flatS vs).take (i*n)=flatS (vs.take i):=by
 rcases Nat.lt_or_ge i vs.length with hi |hi
 ·conv=>lhs;rw[←List.take_append_drop i vs,flatS_append]
  rw[List.take_append_of_le_length,List.take_of_length_le]
  ·rw[flatS_len fun u hu=>h u (List.mem_of_mem_take hu),List.length_take,Nat.min_eq_left (by omega)];exact Nat.le_refl _
  ·rw[flatS_len fun u hu=>h u (List.mem_of_mem_take hu),List.length_take,Nat.min_eq_left (by omega)];exact Nat.le_refl _
 ·rw[List.take_of_length_le hi,List.take_of_length_le];rw[flatS_len h];exact Nat.mul_le_mul_right _ hi
theorem flatS_drop{n:Nat}{vs:List Value}(h:∀v∈vs,v.cells.size=n)(i:Nat):(flatS vs).drop (i*n)=flatS (vs.drop i):=by
 have h1:=flatS_take h i
 have h2:flatS vs=flatS (vs.take i)++flatS (vs.drop i):=by rw[←flatS_append,List.take_append_drop]
 rw[←List.take_append_drop (i*n) (flatS vs),h1]at h2;exact List.append_cancel_left h2
theorem flatS_get{n:Nat}(hn:0<n){vs:List Value}(h:∀v∈vs,v.cells.size=n){i:Nat}{cs:Array Value}(hi:vs[i]? =some (.agg cs))(j:Nat)(hj:j<n):(flatS vs)[i*n+j]? =cs[j]? :=by
 have h1:=flatS_drop h i
 have h2:vs.drop i= .agg cs::vs.drop (i+1):=by
  obtain⟨hl,hv⟩:=List.getElem?_eq_some_iff.1 hi;rw[List.drop_eq_getElem_cons hl,hv]
 rw[h2]at h1
 have h3:flatS (Value.agg cs::vs.drop (i+1))=cs.toList++flatS (vs.drop (i+1)):=rfl
 rw[h3]at h1
 have h4:(flatS vs)[i*n+j]? =((flatS vs).drop (i*n))[j]? :=by rw[List.getElem?_drop]
 have h5:cs.size=n:=h _ (List.mem_of_getElem? hi)
 rw[h4,h1,List.getElem?_append_left (by rw[Array.length_toList,h5];exact hj),Array.getElem?_toList]
def LS(e:TypeId)(n B:Nat)(w:World)(v:Value)(vs:List Value):Prop:=StrN n vs∧w.ownsRow B e n v vs.length (flatS vs)
section
variable {e:TypeId} {n B:Nat} {w w':World} {v:Value} {vs:List Value}
theorem LS.nil(e:TypeId)(n B:Nat)(w:World):LS e n B w (.slice none 0 0) []:=⟨.nil n,World.ownsRow_nil _ _ _ _⟩
theorem LS.mono{B':Nat}(h:LS e n B w v vs)(hb:B'≤B):LS e n B' w v vs:=by
 refine⟨h.1,h.2.1,?_⟩
 rcases h.2.2 with h2 |⟨g,cap,cur,h1,h2,h3⟩
 ·exact .inl h2
 ·exact .inr ⟨g,cap,cur,h1,Nat.le_trans hb h2,h3⟩
theorem LS.kept{row:Option Nat}(h:LS e n B w v vs)(hg:w.grownBy w' row)(hne:v.ownBlock=none∨v.ownBlock≠row):LS e n B w' v vs:=⟨h.1,h.2.kept hg hne⟩
theorem LS.ext(h:LS e n B w v vs)(he:Ext w w'):LS e n B w' v vs:=h.kept he (by
 cases hv:v.ownBlock with
 |none=>exact .inl rfl
 |some g=>exact .inr (by simp))
theorem LS.opn(h:LS e n B w v vs):∃ad cap,v= .slice ad vs.length cap∧vs.length≤cap∧cap≤9223372036854775807∧(∀g,v.ownBlock=some g→ad=some ⟨g,0,none⟩∧B≤g∧g<w.heap.size∧∃cs,Bx e w g cs):=by
 rcases h.2.2 with⟨h1,h2⟩ |⟨g,cap,cur,h1,h2,h3,h4,h5,h6⟩
 ·refine⟨none,0,by rw[h1,h2],by omega,by omega,fun g hg=> ?_⟩;rw[h1]at hg
  cases hg
 ·refine⟨_,cap,h1,h4,by unfold maxLen at h5;omega,fun g' hg=> ?_⟩;rw[h1]at hg;simp only[Value.ownBlock,Option.some.injEq]at hg;subst hg;exact⟨rfl,h2,blk_lt h3,_,h3⟩
theorem LS.hold(h:LS e n B w v vs)(h0:0<vs.length):∃g cap rest,v= .slice (some ⟨g,0,none⟩) vs.length cap∧B≤g∧vs.length≤cap∧cap≤9223372036854775807∧vs.length*n+rest.length=cap*n∧Bx e w g (flatS vs++rest).toArray:=by
 rcases h.2.2 with⟨h1,h2⟩ |⟨g,cap,cur,h1,h2,h3,h4,h5,h6,h7⟩
 ·omega
 ·refine⟨g,cap,cur.toList.drop (vs.length*n),h1,h2,h4,by unfold maxLen at h5;omega,?_,?_⟩
  ·have h9:cur.toList.length=cap*n:=by rw[Array.length_toList];exact h6
   rw[List.length_drop,h9]
   have:=Nat.mul_le_mul_right n h4
   omega
  ·rw[←h7,List.take_append_drop];exact h3
theorem LS.of_hold{g cap:Nat}{rest:List Value}(h5:StrN n vs)(hB:B≤g)(hc:vs.length≤cap)(hm:cap≤9223372036854775807)(hl:vs.length*n+rest.length=cap*n)(hb:Bx e w g (flatS vs++rest).toArray):LS e n B w (.slice (some ⟨g,0,none⟩) vs.length cap) vs:=by
 have hf:=flatS_len h5.size;refine⟨h5,hf,.inr ⟨g,cap,_,rfl,hB,hb,hc,by unfold maxLen;omega,?_,?_⟩⟩
 ·simp only[List.size_toArray,List.length_append,hf];exact hl
 ·show(flatS vs++rest).take (vs.length*n)=flatS vs
  rw[List.take_append_of_le_length (by omega),List.take_of_length_le (by omega)]
theorem LS.at(hn:0<n)(h:LS e n B w v vs){i:Nat}{u:Value}(hi:vs[i]? =some u):∃g cap,v= .slice (some ⟨g,0,none⟩) vs.length cap∧B≤g∧∃cs:Array Value,u= .agg cs∧cs.size=n∧cs.all (·.oneCell')=true∧∀wz,Ext w wz→∀(j:Nat) (x:Value),cs[j]? =some x→wz.cell? ⟨g,i*n+j,none⟩=some x∧wz.frozen? ⟨g,i*n+j,none⟩=false:=by
 obtain⟨hil, -⟩:=List.getElem?_eq_some_iff.1 hi;obtain⟨g,cap,rest,h1,h2,h3,h4,h5,h6⟩:=h.hold (by omega);obtain⟨cs,rfl,hc,ho⟩:=h.1 u (List.mem_of_getElem? hi);refine⟨g,cap,h1,h2,cs,rfl,hc,ho,fun wz hz j x hj=> ?_⟩
 have hjn:j<n:=by rw[←hc];exact(Array.getElem?_eq_some_iff.1 hj).1
 have hb:=h6.ext hz
 constructor
 ·rw[cell_of_row wz g _ _ _ _ hb,List.getElem?_toArray,List.getElem?_append_left,flatS_get hn h.1.size hi j hjn,hj];rw[flatS_len h.1.size]
  have:=Nat.mul_le_mul_right n (show i+1≤vs.length by omega)
  rw[Nat.succ_mul]at this
  omega
 ·exact hb.free _
end
theorem wpList_append_LS{P:Program}{w:World}{ops:Array Oper}{rest:List Oper}{o:Oper}{a:Act}{Q:Exit→Act→World→Prop}(hgd:o.guard=none)(s x:Operand)(t:TypeId)
  (ho:o.op= .call {callee:= .builtin .append,args:=#[s,x],argTypes:=#[t,t]})
  (e:TypeId) (n bytes B:Nat) (ht:P.underlying t=some (.slice e)) (hi:(P.info? e).map (fun i=>(i.size,i.bytes))=some (n,bytes)) (hz:((P.info? e).bind (·.zero)).map (fun z=>z.cells.size)=some n) (hn:0<n)
  (v:Value) (vs:List Value) (hs:a.eval s=v) (hown:LS e n B w v vs)
  (ad:Addr) (cs:Array Value) (hx:a.eval x= .slice (some ad) 1 1) (hl:cs.size=n) (hnews:∀(j:Nat) (u:Value),cs[j]? =some u→w.cell? (ad.add j)=some u) (h1:cs.all (·.oneCell')=true)
  (hbytes:(vs.length+1)*bytes≤140737488355328) (h63:vs.length+1≤140737488355328) (hbase:B≤w.heap.size)
  (h:∀g cap w',LS e n B w' (.slice (some ⟨g,0,none⟩) (vs.length+1) cap) (vs++ [.agg cs])→w.grownBy w' v.ownBlock→(v.ownBlock=some g∨g=w.heap.size)→g<w'.heap.size→wpList P ops Q rest (a.put o.dst (.slice (some ⟨g,0,none⟩) (vs.length+1) cap)) w'):
  wpList P ops Q (o::rest) a w:=by
 cases hie:P.info? e with
 |none=>simp [hie]at hi
 |some i=>
  simp only[hie,Option.map_some,Option.some.injEq,Prod.mk.injEq]at hi
  cases hiz:i.zero with
  |none=>simp [hie,hiz]at hz
  |some z=>
   simp only[hie,hiz,Option.bind_some,Option.map_some,Option.some.injEq]at hz
   refine wpList_append_lies w hgd s x t ho B e i z n bytes ht hie hiz hi.1 hi.2 hz hn v vs.length (flatS vs) hs hown.2 ad 1 1 cs.toList hx (by rw[Array.length_toList,hl,Nat.one_mul]) (fun j u hj=>hnews j u (by rwa [Array.getElem?_toList]at hj)) (fun u hu=>Array.all_eq_true'.1 h1 u (Array.mem_toList_iff.1 hu)) (by omega) (by unfold maxLen;omega) hbytes hbase _ rfl fun g cap w' k1 k2 k3 k4=> ?_
   refine h g cap w' ⟨hown.1.app (.one hl h1),?_⟩ k2 k3 k4;rw[List.length_append,flatS_append]
   have:flatS [Value.agg cs]=cs.toList:=by
    show cs.toList++ []=_
    rw[List.append_nil]
   rw[this];exact k1
theorem IsR.parts{w:World}{v:Value}{x:Rat}{k:Nat}(h:IsR w v x k):∃b ad n cap ad2 n2 cap2,v= .agg #[.bool b,.slice ad n cap,.slice ad2 n2 cap2]:=by
 obtain⟨n,d,⟨b,s,t,m,d0,rfl,⟨xs,⟨ad,cap,rfl, -⟩, -⟩, -,⟨ys,⟨ad2,cap2,rfl, -⟩, -⟩, -⟩, -⟩:=h;exact⟨_,_,_,_,_,_,_,rfl⟩
theorem wpList_append_V{P:Program}{w:World}{ops:Array Oper}{rest:List Oper}{o:Oper}{a:Act}{Q:Exit→Act→World→Prop}(hgd:o.guard=none)(s x:Operand)(t:TypeId)
  (ho:o.op= .call {callee:= .builtin .append,args:=#[s,x],argTypes:=#[t,t]})
  (e:TypeId) (bytes B:Nat) (ht:P.underlying t=some (.slice e)) (hi:(P.info? e).map (fun i=>(i.size,i.bytes))=some (1,bytes)) (hz:((P.info? e).bind (·.zero)).map (fun z=>z.cells.size)=some 1)
  (v:Value) (n:Nat) (xs:List Value) (hs:a.eval s=v) (hown:w.ownsRow B e 1 v n xs)
  (ad:Addr) (u:Value) (hx:a.eval x= .slice (some ad) 1 1) (hnews:∀(j:Nat) (y:Value),[u][j]? =some y→w.cell? (ad.add j)=some y) (h1:u.oneCell'=true)
  (hbytes:(n+1)*bytes≤140737488355328) (h63:n+1≤140737488355328) (hbase:B≤w.heap.size)
  (h:∀g cap w',w'.ownsRow B e 1 (.slice (some ⟨g,0,none⟩) (n+1) cap) (n+1) (xs++ [u])→w.grownBy w' v.ownBlock→(v.ownBlock=some g∨g=w.heap.size)→g<w'.heap.size→wpList P ops Q rest (a.put o.dst (.slice (some ⟨g,0,none⟩) (n+1) cap)) w'):
  wpList P ops Q (o::rest) a w:=by
 cases hie:P.info? e with
 |none=>simp [hie]at hi
 |some i=>
  simp only[hie,Option.map_some,Option.some.injEq,Prod.mk.injEq]at hi
  cases hiz:i.zero with
  |none=>simp [hie,hiz]at hz
  |some z=>
   simp only[hie,hiz,Option.bind_some,Option.map_some,Option.some.injEq]at hz;exact wpList_append_lies w hgd s x t ho B e i z 1 bytes ht hie hiz hi.1 hi.2 hz (by omega) v n xs hs hown ad 1 1 [u] hx rfl hnews (fun y hy=>by rw[List.mem_singleton]at hy;rw[hy];exact h1) (by omega) (by unfold maxLen;omega) hbytes hbase _ rfl h
theorem news_new(w:World)(t:TypeId)(cs:Array Value):∀(j:Nat) (u:Value),cs[j]? =some u→(w.alloc (.cells cs t)).cell? ((⟨w.heap.size,0,none⟩:Addr).add j)=some u:=by
 intro j u hj;rw[Addr.add_lit,Nat.zero_add,(Bx.new w t cs).cell j];exact hj
theorem Ext.stepG{a w w':World}{row:Option Nat}(h:Ext a w)(k:w.grownBy w' row)(hg:∀g,row=some g→a.heap.size≤g):Ext a w':=by
 cases row with
 |none=>exact h.trans k
 |some g=>exact h.step k (hg g rfl)
def keepN(lim:Rat)(l:List Nd):List Nd:=l.filter fun x=>decide (x.q<lim)
def goneN(lim:Rat)(l:List Nd):List Int:=(l.filter fun x=> !decide (x.q<lim)).map (·.id)
theorem keepN_perm{lim:Rat}{l l':List Nd}(h:l.Perm l'):(keepN lim l).Perm (keepN lim l'):=h.filter _
theorem goneN_perm{lim:Rat}{l l':List Nd}(h:l.Perm l'):(goneN lim l).Perm (goneN lim l'):=(h.filter _).map _
theorem keepN_snoc(lim:Rat)(l:List Nd)(x:Nd):keepN lim (l++ [x])=if x.q<lim then keepN lim l++ [x]else keepN lim l:=by
 unfold keepN;rw[List.filter_append]
 by_cases h:x.q<lim<;>simp [h]
theorem goneN_snoc(lim:Rat)(l:List Nd)(x:Nd):goneN lim (l++ [x])=if x.q<lim then goneN lim l else goneN lim l++ [x.id]:=by
 unfold goneN;rw[List.filter_append]
 by_cases h:x.q<lim<;>simp [h]
theorem keep_gone_len(lim:Rat)(l:List Nd):(keepN lim l).length+(goneN lim l).length=l.length:=by
 unfold keepN goneN;rw[List.length_map]
 induction l with
 |nil=>rfl
 |cons x l ih=>by_cases h:x.q<lim<;>simp [h]<;>omega
theorem QHeap.ls{B k:Nat}{w:World}{hv:Value}{d:Array Nd}(h:QHeap B k w hv d):∃vs,vs.length=d.size∧LS 38 5 B w hv vs∧∀(i:Nat) (v:Value),vs[i]? =some v→NdV B k w v d[i]! :=by
 obtain⟨vs,h1,h2,h3,h4⟩:=h;exact⟨vs,h1,⟨h2,by rw[h1];exact h3⟩,h4⟩
theorem LS.qheap{B B' k:Nat}{w:World}{hv:Value}{d:Array Nd}{vs:List Value}(h:LS 38 5 B w hv vs)(hB:B'≤B)(hl:vs.length=d.size)(hn:∀(i:Nat) (v:Value),vs[i]? =some v→NdV B' k w v d[i]!):QHeap B' k w hv d:=by
 have h':=h.mono hB;exact⟨vs,hl,h'.1,by rw[←hl];exact h'.2,hn⟩
theorem NdV.kept{B k:Nat}{w w':World}{v:Value}{x:Nd}{row:Option Nat}(h:NdV B k w v x)(hg:w.grownBy w' row)(hb:∀g,row=some g→∀cs,¬Bx 61 w g cs):NdV B k w' v x:=by
 cases row with
 |none=>exact h.ext hg
 |some g=>
  refine h.chgX (bs:=[g]) (((Ext.refl w).chgS [g]).stepC hg (.inl (by simp))) fun g' hg' cs=> ?_
  simp only[List.mem_singleton]at hg';subst hg';exact hb _ rfl cs
def PrI(w:World)(B k:Nat)(lim:Rat)(d:Array Nd)(i:Nat)(ov lv:Value)(wr:World):Prop:=
 ∃(dl:Array Nd) (vl:List Value),Ext w wr∧LS 38 5 w.heap.size wr lv vl∧vl.length=dl.size∧(∀(j:Nat) (v:Value),vl[j]? =some v→NdV B k wr v dl[j]!)∧dl.toList=keepN lim (d.toList.take i)∧
  wr.ownsRow w.heap.size 3 1 ov (goneN lim (d.toList.take i)).length ((goneN lim (d.toList.take i)).map (Value.int .i64))
theorem bx_ne{t u:TypeId}{w:World}{g:Nat}{cs ds:Array Value}(h:Bx t w g cs)(hn:t≠u):¬Bx u w g ds:=by
 intro h2;unfold Bx at h h2;rw[h]at h2;simp only[Option.some.injEq,Obj.cells.injEq]at h2;exact hn h2.2.1
theorem own_bx{B n m:Nat}{e:TypeId}{w:World}{v:Value}{xs:List Value}(h:w.ownsRow B e n v m xs):∀g,v.ownBlock=some g→B≤g∧∃cs,Bx e w g cs:=by
 intro g hg
 rcases h.2 with⟨h1,h2⟩ |⟨g',cap,cur,h1,h2,h3,h4⟩
 ·rw[h1]at hg;cases hg
 ·rw[h1]at hg;simp only[Value.ownBlock,Option.some.injEq]at hg;subst hg;exact⟨h2,_,h3⟩
theorem PrI.stay{w wr w':World}{B k i:Nat}{lim:Rat}{d:Array Nd}{ov lv lv':Value}{cs:Array Value}{vl:List Value}{dl:Array Nd}{x:Nd}(he:Ext w wr)(hl:LS 38 5 w.heap.size wr lv vl)(hvl:vl.length=dl.size)
  (hn:∀(j:Nat) (v:Value),vl[j]? =some v→NdV B k wr v dl[j]!) (hd:dl.toList=keepN lim (d.toList.take i)) (ho:wr.ownsRow w.heap.size 3 1 ov (goneN lim (d.toList.take i)).length ((goneN lim (d.toList.take i)).map (Value.int .i64)))
  (hx:d.toList[i]? =some x) (hlt:x.q<lim) (hnx:NdV B k wr (.agg cs) x) (h1:LS 38 5 w.heap.size w' lv' (vl++ [.agg cs])) (hg:wr.grownBy w' lv.ownBlock):PrI w B k lim d (i+1) ov lv' w':=by
 have htk:d.toList.take (i+1)=d.toList.take i++ [x]:=by rw[List.take_add_one,hx];rfl
 have hno:∀g,lv.ownBlock=some g→∀ds,¬Bx 61 wr g ds:=fun g hg ds=>by
  obtain⟨-,cs',hb⟩:=own_bx hl.2 g hg;exact bx_ne hb (by decide)
 refine⟨dl.push x,vl++ [.agg cs],he.stepG hg fun g hg=>(own_bx hl.2 g hg).1,h1,by simp[hvl],fun j v hj=> ?_,?_,?_⟩
 ·rcases Nat.lt_or_ge j vl.length with hlt |hge
  ·rw[List.getElem?_append_left hlt]at hj
   have:=(hn j v hj).kept hg hno
   rw[show (dl.push x)[j]! =dl[j]! by simp[Array.getElem!_eq_getD,Array.getElem?_push,show j≠dl.size by omega]];exact this
  ·rw[List.getElem?_append_right hge]at hj
   have hj0:j - vl.length=0:=by
    have:=(List.getElem?_eq_some_iff.1 hj).1
    simp at this
    omega
   rw[hj0]at hj;simp only[List.getElem?_cons_zero,Option.some.injEq]at hj;subst hj;rw[show (dl.push x)[j]! =x by simp[Array.getElem!_eq_getD,Array.getElem?_push,show j=dl.size by omega]];exact hnx.kept hg hno
 ·rw[htk,keepN_snoc,if_pos hlt,Array.toList_push,hd]
 ·rw[htk,goneN_snoc,if_pos hlt];refine ho.kept hg ?_
  cases hv:ov.ownBlock with
  |none=>exact .inl rfl
  |some g=>
   refine .inr fun he=> ?_
   obtain⟨-,cs1,hb1⟩:=own_bx ho g hv;obtain⟨-,cs2,hb2⟩:=own_bx hl.2 g he.symm;exact bx_ne hb1 (by decide) hb2
theorem PrI.go{w wr w':World}{B k i:Nat}{lim:Rat}{d:Array Nd}{ov lv ov':Value}{vl:List Value}{dl:Array Nd}{x:Nd}(he:Ext w wr)(hl:LS 38 5 w.heap.size wr lv vl)(hvl:vl.length=dl.size)
  (hn:∀(j:Nat) (v:Value),vl[j]? =some v→NdV B k wr v dl[j]!) (hd:dl.toList=keepN lim (d.toList.take i)) (ho:wr.ownsRow w.heap.size 3 1 ov (goneN lim (d.toList.take i)).length ((goneN lim (d.toList.take i)).map (Value.int .i64)))
  (hx:d.toList[i]? =some x) (hlt:¬x.q<lim) (h1:w'.ownsRow w.heap.size 3 1 ov' ((goneN lim (d.toList.take i)).length+1) ((goneN lim (d.toList.take i)).map (Value.int .i64)++ [.int .i64 x.id])) (hg:wr.grownBy w' ov.ownBlock):PrI w B k lim d (i+1) ov' lv w':=by
 have htk:d.toList.take (i+1)=d.toList.take i++ [x]:=by rw[List.take_add_one,hx];rfl
 have hno:∀g,ov.ownBlock=some g→∀ds,¬Bx 61 wr g ds:=fun g hg ds=>by
  obtain⟨-,cs',hb⟩:=own_bx ho g hg;exact bx_ne hb (by decide)
 refine⟨dl,vl,he.stepG hg fun g hg=>(own_bx ho g hg).1,hl.kept hg ?_,hvl,fun j v hj=>(hn j v hj).kept hg hno,?_,?_⟩
 ·cases hv:lv.ownBlock with
  |none=>exact .inl rfl
  |some g=>
   refine .inr fun he=> ?_
   obtain⟨-,cs1,hb1⟩:=own_bx hl.2 g hv;obtain⟨-,cs2,hb2⟩:=own_bx ho g he.symm;exact bx_ne hb1 (by decide) hb2
 ·rw[htk,keepN_snoc,if_neg hlt,hd]
 ·rw[htk,goneN_snoc,if_neg hlt,List.length_append,List.map_append];exact h1
theorem sorted_perm{l l':List Int}(h:l.Perm l'):l.mergeSort (fun x y=>decide (x≤y))=l'.mergeSort (fun x y=>decide (x≤y)):=by
 have tr:∀a b c:Int,decide (a≤b)=true→decide (b≤c)=true→decide (a≤c)=true:=fun a b c h1 h2=>by simp only[decide_eq_true_eq]at*;omega
 have tt:∀a b:Int,(decide (a≤b) || decide (b≤a))=true:=fun a b=>by simp only[Bool.or_eq_true,decide_eq_true_eq];omega
 have hp:(l.mergeSort (fun x y=>decide (x≤y))).Perm (l'.mergeSort (fun x y=>decide (x≤y))):=(List.mergeSort_perm l _).trans (h.trans (List.mergeSort_perm l' _).symm)
 refine hp.eq_of_pairwise (le:=fun x y=>decide (x≤y)=true) (fun a b _ _ h1 h2=>by simp only[decide_eq_true_eq]at*;omega) (List.pairwise_mergeSort tr tt l) (List.pairwise_mergeSort tr tt l')
theorem ownsRow_mono{B B' e size n:Nat}{w:World}{v:Value}{xs:List Value}(h:w.ownsRow B e size v n xs)(hB:B'≤B):w.ownsRow B' e size v n xs:=by
 refine⟨h.1,?_⟩
 rcases h.2 with h2 |⟨g,cap,cur,h1,h2,h3⟩
 ·exact .inl h2
 ·exact .inr ⟨g,cap,cur,h1,Nat.le_trans hB h2,h3⟩
theorem ChgS.stepG{bs:List Nat}{w w1 w2:World}{row:Option Nat}(h:ChgS bs w w1)(k:w1.grownBy w2 row)(hr:∀g,row=some g→g∈bs∨w.heap.size≤g):ChgS bs w w2:=by
 cases row with
 |none=>exact h.more ((show Ext w1 w2 from k).chgS []) (by simp)
 |some g=>exact h.stepC k (hr g rfl)
theorem Bx.keptG{t:TypeId}{w w':World}{g:Nat}{cs:Array Value}{row:Option Nat}(h:Bx t w g cs)(k:w.grownBy w' row)(hr:row≠some g):Bx t w' g cs:=by
 cases row with
 |none=>exact h.ext k
 |some g'=>exact h.chg k (fun e=>hr (by rw[e]))
theorem sortI_calls(B:Nat)(v:Value)(ids:List Int)(w:World)(h:w.ownsRow B 3 1 v ids.length (ids.map (Value.int .i64)))(hl:ids.length<4611686018427387904):
  Calls Tryz.prog 31 #[v] w fun e w'=>e= .returned (.tuple #[])∧w'.ownsRow B 3 1 v ids.length ((ids.mergeSort (fun x y=>decide (x≤y))).map (Value.int .i64))∧w.grownBy w' v.ownBlock:=by
 by_cases h0:ids=[]
 ·subst h0;obtain⟨ad,cap,rfl⟩:=ownsRow_len h;refine(Tryz.slices_Sort_int_none ad cap w).mono ?_;rintro e w' ⟨rfl,rfl⟩;refine⟨rfl,?_,World.grownBy.refl _ _⟩;rw[show ([]:List Int).mergeSort (fun x y=>decide (x≤y))=[]from by simp];exact h
 ·have hpos:0<ids.length:=List.length_pos_iff.2 h0
  rcases h.2 with⟨_,h2⟩ |⟨g,cap,cur,rfl,hb,hg,h1,h2,h3,h4⟩
  ·omega
  ·refine(Tryz.slices_Sort_int g 0 cap ids w (holds_of_blockI hg (by simpa using h4)) (blk_lt hg) hl).mono ?_;rintro e w' ⟨rfl,nn,os,rfl⟩;exact⟨rfl,ownsRow_sortedI (by simp) hb hg h1 h2 h3,grownBy_sortedI _⟩
theorem QHeap.kept{B k:Nat}{w w':World}{hv:Value}{d:Array Nd}{row:Option Nat}(h:QHeap B k w hv d)(hg:w.grownBy w' row)(hb:∀g,row=some g→∃t cs,Bx t w g cs∧t≠61∧t≠38):QHeap B k w' hv d:=by
 obtain⟨vs,h1,h2,h3,h4⟩:=h;refine⟨vs,h1,h2,h3.kept hg ?_,fun i v hi=>(h4 i v hi).kept hg fun g hr cs=> ?_⟩
 ·cases hv':hv.ownBlock with
  |none=>exact .inl rfl
  |some g=>
   refine .inr fun he=> ?_
   obtain⟨-,cs1,hb1⟩:=own_bx h3 g hv';obtain⟨t,cs2,hb2, -,ht⟩:=hb g he.symm;exact bx_ne hb2 ht hb1
 ·obtain⟨t,cs2,hb2,ht, -⟩:=hb g hr;exact bx_ne hb2 ht
def SnkI(w:World)(B B1 k p:Nat)(best:Bool)(lv ov:Value)(l:List Nd)(ids:List Int)(m t:Nat)(w3:World):Prop:=
 ∃d':Array Nd,QHeap B k w3 lv d'∧HpFrom best d' t∧d'.toList.Perm l∧d'.size=m∧Bx 58 w3 p #[.int .i64 (ordV best),lv]∧w3.ownsRow B1 3 1 ov ids.length (ids.map (Value.int .i64))∧ChgS [p] w w3
theorem HpFrom.half{best:Bool}{d:Array Nd}:HpFrom best d (d.size / 2):=by
 intro j h0 hj hk
 omega
set_option maxHeartbeats 8000000 in
theorem pruneC_calls(w0 w:World)(k p:Nat)(best:Bool)(l:List Nd)(S:List Nat)(lv:Value)(lim:Rat)(m:Nat)(h:Qu w0 k best p l S w)(hx:IsR w lv lim m)(hk:k≤1000)(hm:m≤1000)(hn:(l.length+1)*72≤140737488355328)(hSl:∀g∈S,g<w.heap.size):
  Calls Tryz.prog 15 #[.pointer (some ⟨p,0,none⟩),lv] w fun e w'=>∃ov,e= .returned ov∧w'.ownsRow w.heap.size 3 1 ov (goneN lim l).length (((goneN lim l).mergeSort (fun x y=>decide (x≤y))).map (Value.int .i64))∧Qu w0 k best p (keepN lim l) S w'∧QFr S p w w'∧ChgS [p] w w':=by
 have lim0:(1000:Nat)≤LIM:=by rw[LIM_eq];omega
 obtain⟨hv,d,hp,hq,hh,hperm,hbase,hpb,hSg⟩:=h;obtain⟨vs,hvl,hls,hnd⟩:=hq.ls;obtain⟨ad,cap,hve,hcl,hcm,hwh⟩:=hls.opn;obtain⟨n,hn0⟩:∃n,n=d.size:=⟨_,rfl⟩
 have hnl:n=l.length:=by rw[hn0,←hperm.length_eq,Array.length_toList]
 rw[hvl,←hn0]at hve;rw[hvl,←hn0]at hcl;rw[←hnl]at hn;subst hve;have Hx:=Lib.hid hx;obtain⟨b,ad1,n1,cap1,ad2,n2,cap2,rfl⟩:=hx.parts;clear hx hq;have HN:=Lib.hid hn0;have HLS:=Lib.hid hls;have HND:=Lib.hid hnd;have HVL:=Lib.hid hvl;have HP:=Lib.hid hp;have HPM:=Lib.hid hperm;have HB:=Lib.hid hbase;have HSG:=Lib.hid hSg;have HSL:=Lib.hid hSl;have HWH:=Lib.hid hwh;have hpl:=hp.lt;clear hn0 hls hnd hvl hp hperm hbase hSg hSl hwh hh hnl
 go_enter Tryz.func15,Tryz.ntmps15
 obtain⟨w1,hw1,e1,b1,s1⟩:=alloc1 w #[.bool b,.slice ad1 n1 cap1,.slice ad2 n2 cap2] 36;have hc1:=(HP.out.ext e1).cell 1;rw[hw1]at hc1;go_wp2_with fail;rw[←hw1];clear hw1 hc1;have B1:=Lib.hid b1;clear b1
 go_loopw [4,5,14] (fun ov lv i wr=>∃j:Nat,i= .int .i64 (j:Int)∧j≤n∧Hid (PrI w1 w0.heap.size k lim d j ov lv wr)) (fun _ _ i _=>((n:Int) - intOf i).toNat)
 case atStart=>
  refine⟨0,rfl,Nat.zero_le _,Lib.hid ⟨#[],[],Ext.refl _,LS.nil _ _ _ _,rfl,(fun j v hj=>by cases hj),rfl,World.ownsRow_nil _ _ _ _⟩⟩
 case round=>
  obtain⟨j,rfl,hj,hH⟩:=hrel
  rcases Nat.eq_or_lt_of_le hj with hjn |hjn
  ·subst hjn;obtain⟨dl,vl,hE1,hl,hvl,hnl,hdl,ho⟩:=hH.out
   have htk:d.toList.take j=d.toList:=List.take_of_length_le (by rw[Array.length_toList,←HN.out];exact Nat.le_refl _)
   rw[htk]at hdl ho
   have hml:dl.size≤j:=by
    rw[←Array.length_toList,hdl,HN.out,←Array.length_toList];exact List.length_filter_le _ _
   have hgl:(goneN lim d.toList).length≤j:=by
    have:=keep_gone_len lim d.toList
    rw[Array.length_toList (xs:=d),←HN.out]at this
    omega
   obtain⟨ad',cap',hve',hcl',hcm',hwh'⟩:=hl.opn;rw[hvl]at hve';subst hve';have P1:=HP.out.ext (e1.trans hE1);have hcp1:=P1.cell 1;have hfp1:=P1.free 1;have HQ1:=Lib.hid (hl.qheap (Nat.le_trans HB.out.size (Nat.le_trans e1.size (Nat.le_refl _))) hvl hnl);have HO1:=Lib.hid ho;have HDL:=Lib.hid hdl;have HE1:=Lib.hid hE1;have HP1:=Lib.hid P1;have HLV:=Lib.hid hwh';clear hl hvl hnl hdl ho hE1 P1 hwh' hH htk hcl';obtain⟨m',hm'⟩:∃m',m'=dl.size:=⟨_,rfl⟩;rw[←hm']at HQ1 hml HLV ⊢;have HM:=Lib.hid hm';clear hm';go_wp2_with fail;obtain⟨w2,hw2⟩:∃w2,w2=wr.setCell ⟨p,1,none⟩ (.slice ad' m' cap'):=⟨_,rfl⟩;have c2:Chg p wr w2:=hw2▸Chg.setCell wr p 1 _;have P2:Bx 58 w2 p #[.int .i64 (ordV best),.slice ad' m' cap']:=hw2▸HP1.out.set 1 _;rw[←hw2];clear hw2 hcp1 hfp1
   have hrow:∀g,some p=some g→∃t cs,Bx t wr g cs∧t≠61∧t≠38:=fun g hg=>by
    cases hg
    exact⟨_,_,HP1.out,by decide,by decide⟩
   have J2:Hid (SnkI w w0.heap.size w1.heap.size k p best (.slice ad' m' cap') u4 (keepN lim d.toList) (goneN lim d.toList) m' (m' / 2) w2):=
    Lib.hid ⟨dl,HQ1.out.kept c2 hrow,by rw[HM.out];exact HpFrom.half,by rw[HDL.out],HM.out.symm,P2,ownsRow_chg HO1.out c2 HP1.out (by decide),(((e1.trans HE1.out).chgS [p]).stepC c2 (.inl (by simp)))⟩
   clear hrow c2 P2 HQ1 HO1
   go_loopw [8] (fun i w3=>∃t:Nat,i= .int .i64 ((t:Int) - 1)∧t≤m' / 2∧Hid (SnkI w w0.heap.size w1.heap.size k p best (.slice ad' m' cap') u4 (keepN lim d.toList) (goneN lim d.toList) m' t w3)) (fun i _=>(intOf i+1).toNat)
   case atStart=>exact ⟨m' / 2,by simp,Nat.le_refl _,J2⟩
   case round=>
    obtain⟨t,rfl,ht,hJ⟩:=hrel;clear J2
    rcases t with _ |t
    ·have ht0:(((0:Nat):Int) - 1)= -1:=rfl
     rw[ht0];go_wp2_with fail;obtain⟨d',hq',hh',hp',hs',hb',ho',hc'⟩:=hJ.out;refine(sortI_calls w1.heap.size _ _ _ ho' (by omega)).mono ?_;rintro e w4 ⟨rfl,ho4,hg4⟩;go_wp2;go_ret
     have hrow:∀g,Value.ownBlock u4=some g→∃t cs,Bx t wr g cs∧t≠61∧t≠38:=fun g hg=>by
      obtain⟨-,cs,hb⟩:=own_bx ho' g hg;exact⟨_,_,hb,by decide,by decide⟩
     have hgp:=goneN_perm (lim:=lim) HPM.out
     have hob:∀g,Value.ownBlock u4=some g→w.heap.size≤g:=fun g hg=>Nat.le_trans e1.size (own_bx ho' g hg).1
     refine⟨_,rfl,?_,⟨_,d',?_,hq'.kept hg4 hrow,hh',hp'.trans (keepN_perm HPM.out),(HB.out.stepS hc' (by intro g hg;simp only[List.mem_singleton]at hg;omega)).stepG hg4 fun g hg=>Nat.le_trans HB.out.size (hob g hg),hpb,fun g hg hS=> ?_⟩,⟨[p],?_,fun g hg=> ?_⟩,hc'.stepG hg4 fun g hg=> .inr (hob g hg)⟩
     ·rw[←sorted_perm hgp,←hgp.length_eq];exact ownsRow_mono ho4 e1.size
     ·refine hb'.keptG hg4 fun he=> ?_
      have:=hob p he
      omega
     ·have h1:=(HLV.out g hg).2.1;have h2:=HSL.out g hS
      omega
     ·exact hc'.stepG hg4 fun g hg=> .inr (hob g hg)
     ·simp only[List.mem_singleton]at hg;subst hg;exact .inl ⟨rfl,_,HP.out⟩
    ·have ht1:(((t+1:Nat):Int) - 1)=(t:Int):=by omega
     rw[ht1]
     have ht0:(0:Int)≤(t:Int):=by omega
     go_wp2_with fail;obtain⟨d',hq',hh',hp',hs',hb',ho',hc'⟩:=hJ.out;obtain⟨vs1,z1,z2,z3,z4⟩:=hq';obtain⟨m1,hm1⟩:∃m1,m'=m1+1:=⟨m' - 1,by omega⟩;rw[hs',hm1]at z3;obtain⟨g,cap3,rest,hve,hBg,hcc,hcm3,hlr,hold⟩:=ownsRow_hold z3 z2 (z1.trans (hs'.trans hm1));simp only[Value.slice.injEq]at hve;obtain⟨hva, -,rfl⟩:=hve;have hg1:=(HLV.out g (by rw[hva];rfl)).2.1;have hb2:=hb';rw[hva,←hs']at hb2;refine(sink_calls w0.heap.size k p g cap' t t best rest vs1 d' wr hb2 ⟨z1,hold,z4⟩ hh'.down (Nat.le_refl _) (by omega) (by omega) (by omega) (by omega)).mono ?_;rintro e w5 ⟨rfl,c5,vs5,d5,n5,h5,p5,s5⟩
     have P5:=hb'.chg c5 (by
      rintro rfl
      omega)
     have HVA:=Lib.hid hva;have HM1:=Lib.hid hm1;clear hva hm1;go_wp2_with fail;go_roundw
     case rel=>
      have hm1:=HM1.out;refine⟨t,rfl,by omega,Lib.hid ⟨d5,?_,h5,p5.trans hp',s5.trans hs',P5,ownsRow_chg ho' c5 hold.2 (by decide),hc'.stepC c5 (.inr (by omega))⟩⟩
      have:=n5.1
      rw[HVA.out];exact hold_qheap n5 hBg (s5.trans hs') (by omega) hcm3 (by omega)
     case measure=>simp [intOf]
  ·obtain⟨x,hxj⟩:∃x,d.toList[j]? =some x:=⟨_,List.getElem?_eq_getElem (by rw[Array.length_toList,←HN.out];exact hjn)⟩;obtain⟨u,huj⟩:∃u,vs[j]? =some u:=⟨_,List.getElem?_eq_getElem (by rw[HVL.out,←HN.out];exact hjn)⟩;have hnu:=HND.out j u huj
   have hdx:d[j]! =x:=by
    rw[Array.getElem!_eq_getD,Array.getD_eq_getD_getElem?,←Array.getElem?_toList,hxj]
    rfl
   rw[hdx]at hnu;obtain⟨g,cap',hsl,hgB,cs,hcs,hc5,hco,hcell⟩:=HLS.out.at (by omega) huj;obtain⟨bb,a3,n3,c3,a4,n4,c4,hu,hfr,hsz⟩:=id hnu;subst hcs
   cases hu
   cases hsl
   obtain⟨dl,vl,hE1,hl,hvl,hnl,hdl,ho⟩:=hH.out;have he:=e1.trans hE1;have hc0:=(hcell wr he 0 _ rfl).1;have hc1:=(hcell wr he 1 _ rfl).1;have hc2:=(hcell wr he 2 _ rfl).1;have hc3:=(hcell wr he 3 _ rfl).1;have hc4:=(hcell wr he 4 _ rfl).1;obtain⟨id,dep,q⟩:=x
   simp only at hc0 hc1 hfr hsz hnu
   simp only[Nat.add_zero]at hc0;obtain⟨w4,hw4,e4,b4,s4⟩:=alloc1 wr #[.int .i64 id,.int .i64 dep,.bool bb,.slice a3 n3 c3,.slice a4 n4 c4] 38;have R4:=B1.out.ext (hE1.trans e4);have hr0:=R4.cell 0;have hr1:=R4.cell 1;have hr2:=R4.cell 2;rw[hw4]at hr0 hr1 hr2;have HL:=Lib.hid hl;have HVl:=Lib.hid hvl;have HNl:=Lib.hid hnl;have HDl:=Lib.hid hdl;have HO:=Lib.hid ho;have HE:=Lib.hid he;have HXj:=Lib.hid hxj;have HF:=Lib.hid hfr;have HS:=Lib.hid hsz;have HNu:=Lib.hid hnu;clear hl hvl hnl hdl ho he hH hcell hxj huj hnu hdx hfr hsz;go_wp2_with fail;rw[←hw4];have hbw:=HB.out.size;refine(rcmp_calls _ _ q lim k m _ (HF.out.ext (HE.out.trans e4) |>.isR HS.out (by omega)) (Hx.out.ext (HE.out.trans e4)) (by omega)).mono ?_;rintro e w5 ⟨rfl,e5⟩;have hd:=b4.ext e5;have hd0:=hd.cell 0;have hd1:=hd.cell 1;have hd2:=hd.cell 2;have hd3:=hd.cell 3;have hd4:=hd.cell 4;have E5:=e4.trans e5;have h5:=e4.size;have h6:=e5.size;have hwr:=hE1.size
   have hlen:dl.size≤j:=by
    rw[←Array.length_toList,HDl.out];exact Nat.le_trans (List.length_filter_le _ _) (by rw[List.length_take];exact Nat.min_le_left _ _)
   have hgn:(goneN lim (d.toList.take j)).length≤j:=by
    have:=keep_gone_len lim (d.toList.take j)
    rw[List.length_take]at this
    omega
   rw[←HVl.out]at hlen
   by_cases hlt:q<lim
   ·have hcm:cmpR q lim<0:=cmpR_lt.2 hlt;have hnx:NdV w0.heap.size k w5 (.agg #[.int .i64 id,.int .i64 dep,.bool bb,.slice a3 n3 c3,.slice a4 n4 c4]) ⟨id,dep,q⟩:=HNu.out.ext (HE.out.trans E5);have HNX:=Lib.hid hnx;have HLT:=Lib.hid hlt;clear hnx hlt
    go_wp2_with (first
     | (at_builtin;go_loud (refine wpList_append_LS rfl _ _ 29 rfl 38 5 72 w1.heap.size Tryz.underlying29 (by kernel_rfl) (by kernel_rfl) (by omega) _ vl rfl (HL.out.ext (E5.trans ((Ext.refl _).alloc _))) ⟨w5.heap.size,0,none⟩ #[.int .i64 id,.int .i64 dep,.bool bb,.slice a3 n3 c3,.slice a4 n4 c4] rfl rfl (news_new _ _ _) (by kernel_rfl) (by omega) (by omega) (by show w1.heap.size≤(w5.alloc _).heap.size;rw[alloc_size];omega) ?_);intro g' cap2' w7 hls7 hg7 hwh7 hlt7)
     |fail)
    go_roundw
    case rel=>
     have hA:=(Ext.refl w5).alloc (.cells #[.int .i64 id,.int .i64 dep,.bool bb,.slice a3 n3 c3,.slice a4 n4 c4] 38);have hE0:=E5.trans hA;refine⟨j+1,by simp,by omega,Lib.hid (PrI.stay (hE1.trans hE0) (HL.out.ext hE0) HVl.out (fun i v hi=>(HNl.out i v hi).ext hE0) HDl.out (ownsRow_ext HO.out hE0) HXj.out HLT.out (HNX.out.ext hA) hls7 hg7)⟩
    case measure=>simp [intOf];omega
   ·have hcm:¬cmpR q lim<0:=fun h=>hlt (cmpR_lt.1 h)
    have HLT:=Lib.hid hlt;clear hlt
    go_wp2_with (first
     | (at_builtin;go_loud (refine wpList_append_V rfl _ _ 49 rfl 3 8 w1.heap.size Tryz.underlying49 (by kernel_rfl) (by kernel_rfl) _ (goneN lim (d.toList.take j)).length ((goneN lim (d.toList.take j)).map (Value.int .i64)) rfl (ownsRow_ext HO.out (E5.trans ((Ext.refl _).alloc _))) ⟨w5.heap.size,0,none⟩ (.int .i64 id) rfl (cell_one_new _ _ _) rfl (by omega) (by omega) (by show w1.heap.size≤(w5.alloc _).heap.size;rw[alloc_size];omega) ?_);intro g' cap2' w7 hls7 hg7 hwh7 hlt7)
     |fail)
    go_roundw
    case rel=>
     have hA:=(Ext.refl w5).alloc (.cells #[.int .i64 id] 3);have hE0:=E5.trans hA;refine⟨j+1,by simp,by omega,Lib.hid (PrI.go (hE1.trans hE0) (HL.out.ext hE0) HVl.out (fun i v hi=>(HNl.out i v hi).ext hE0) HDl.out (ownsRow_ext HO.out hE0) HXj.out HLT.out hls7 hg7)⟩
    case measure=>simp [intOf];omega
def HurtP(Q:Nat→Prop)(w w':World):Prop:=w'.os=w.os∧w'.tape=w.tape∧w'.output=w.output∧w.heap.size≤w'.heap.size∧
 ∀k,k<w.heap.size→w'.heap[k]? =w.heap[k]? ∨(Q k∧∃cur cur',w.heap[k]? =some (.cells cur 61 (0,0))∧w'.heap[k]? =some (.cells cur' 61 (0,0))∧cur'.size=cur.size)
theorem HurtP.trans{Q:Nat→Prop}{a b c:World}(h:HurtP Q a b)(k:HurtP Q b c):HurtP Q a c:=by
 obtain⟨h1,h2,h3,h4,h5⟩:=h;obtain⟨k1,k2,k3,k4,k5⟩:=k;refine⟨k1.trans h1,k2.trans h2,k3.trans h3,Nat.le_trans h4 k4,fun g hg=> ?_⟩
 rcases h5 g hg with e1 |⟨hb,cur,cur',c1,c2,c3⟩<;>rcases k5 g (by omega)with e2 |⟨hb2,dur,dur',d1,d2,d3⟩
 ·exact .inl (e2.trans e1)
 ·exact .inr ⟨hb2,dur,dur',e1▸d1,d2,d3⟩
 ·exact .inr ⟨hb,cur,cur',c1,e2.trans c2,c3⟩
 ·refine .inr ⟨hb,cur,dur',c1,d2,?_⟩;rw[c2]at d1
  cases d1
  omega
theorem Ext.hurtsP{w w':World}(Q:Nat→Prop)(h:Ext w w'):HurtP Q w w':=⟨World.grownBy.os h,World.grownBy.tape h,World.grownBy.output h,h.size,fun k hk=> .inl (h.heap hk)⟩
theorem Ext.hurtP{Q:Nat→Prop}{a w w':World}(h:Ext a w)(k:HurtP Q w w')(hB:∀k,Q k→a.heap.size≤k):Ext a w':=by
 obtain⟨k1,k2,k3,k4,k5⟩:=k;refine⟨k1.trans (World.grownBy.os h),k2.trans (World.grownBy.tape h),k3.trans (World.grownBy.output h),Nat.le_trans h.size k4,fun g hg _=> ?_⟩
 have:=h.size
 rcases k5 g (by omega)with e1 |⟨hb, -⟩
 ·exact e1.trans (h.heap hg)
 ·have:=hB g hb;omega
theorem Bx.hurtP{Q:Nat→Prop}{t:TypeId}{w w':World}{g:Nat}{cs:Array Value}(h:Bx t w g cs)(he:HurtP Q w w')(ht:t≠61):Bx t w' g cs:=by
 rcases he.2.2.2.2 g (blk_lt h)with e1 |⟨-,cur,cur',c1, -⟩
 ·exact e1.trans h
 ·unfold Bx at h;rw[h]at c1
  cases c1
  exact absurd rfl ht
theorem HurtP.setCell{Q:Nat→Prop}{g i:Nat}{w:World}{cur:Array Value}(h:w.heap[g]? =some (.cells cur 61 (0,0)))(hB:Q g)(u:Value):HurtP Q w (w.setCell ⟨g,i,none⟩ u):=by
 have hc:=Chg.setCell w g i u;refine⟨World.grownBy.os hc,World.grownBy.tape hc,World.grownBy.output hc,hc.size,fun k hk=> ?_⟩
 by_cases hkg:k=g
 ·subst hkg;exact .inr ⟨hB,cur,_,h,heap_setCell_same w k i _ _ _ h,by simp⟩
 ·exact .inl (hc.heap hk hkg)
def ShpP(Q:Nat→Prop)(w:World)(s:Value):Prop:=∃ad l cap,s= .slice ad l cap∧l≤9223372036854775807∧(l=0∨∃g cur,ad=some ⟨g,0,none⟩∧Q g∧w.heap[g]? =some (.cells cur 61 (0,0))∧l≤cur.size)
def ShpR(Q:Nat→Prop)(w:World)(v:Value):Prop:=∃b s t,v= .agg #[.bool b,s,t]∧ShpP Q w s∧ShpP Q w t
theorem ShpP.hurtP{Q Q1:Nat→Prop}{w w':World}{s:Value}(h:ShpP Q w s)(he:HurtP Q1 w w'):ShpP Q w' s:=by
 obtain⟨ad,l,cap,h1,h2,h3⟩:=h;refine⟨ad,l,cap,h1,h2,?_⟩
 rcases h3 with h3 |⟨g,cur,h3,h4,h5,h6⟩
 ·exact .inl h3
 ·rcases he.2.2.2.2 g (blk_lt h5)with e1 |⟨-,cu,cu',c1,c2,c3⟩
  ·exact .inr ⟨g,cur,h3,h4,e1.trans h5,h6⟩
  ·rw[h5]at c1
   cases c1
   exact .inr ⟨g,cu',h3,h4,c2,by omega⟩
theorem ShpR.hurtP{Q Q1:Nat→Prop}{w w':World}{v:Value}(h:ShpR Q w v)(he:HurtP Q1 w w'):ShpR Q w' v:=by
 obtain⟨b,s,t,h1,h2,h3⟩:=h;exact⟨b,s,t,h1,h2.hurtP he,h3.hurtP he⟩
theorem FrL.shpP{k:IntKind}{B0 B1:Nat}{w:World}{s:Value}{xs:List Nat}(h:FrL 61 k B0 w s xs)(hB:w.heap.size≤B1):ShpP (fun k=>B0≤k∧k<B1) w s:=by
 obtain⟨ad,cap,h1,h2,h3,h4⟩:=h;refine⟨ad,_,cap,h1,by omega,?_⟩
 rcases h4 with⟨h4, -⟩ |⟨g,cur,h4,h5,h6,h7, -⟩
 ·exact .inl (by rw[vals_nil.1 h4];rfl)
 ·exact .inr ⟨g,cur,h4,⟨h5,Nat.lt_of_lt_of_le (blk_lt h6) hB⟩,h6,by omega⟩
theorem FrQ.shpP{B0 B1:Nat}{w:World}{v:Value}{q:Rat}(h:FrQ B0 w v q)(hB:w.heap.size≤B1):ShpR (fun k=>B0≤k∧k<B1) w v:=by
 obtain⟨s,t,h1,h2,h3⟩:=h;exact⟨_,s,t,h1,FrL.shpP h2 hB,FrL.shpP h3 hB⟩
theorem HurtP.refl(Q:Nat→Prop)(w:World):HurtP Q w w:=⟨rfl,rfl,rfl,Nat.le_refl _,fun k hk=> .inl rfl⟩
theorem spoilP_calls(v:Value)(Q:Nat→Prop)(w:World)(hv:ShpR Q w v):
  Calls Tryz.prog 9 #[v] w fun e w'=>e= .returned (.tuple #[])∧HurtP Q w w':=by
 obtain⟨b,s,t,rfl,hs,ht⟩:=hv;obtain⟨ad,l,cap,rfl,hl,hs1⟩:=hs;obtain⟨ad2,m,cap2,rfl,hm,ht1⟩:=ht
 go_enter Tryz.func9,Tryz.ntmps9
 obtain⟨w1,hw1,e1,b1,s1⟩:=alloc1 w #[.bool b,.slice ad l cap,.slice ad2 m cap2] 36;go_wp2_with fail;rw[←hw1];have H1:=e1.hurtsP Q
 go_loopw [2] (fun i wr=>∃k:Nat,k≤l∧i= .int .i64 (k:Int)∧HurtP Q w wr∧Bx 36 wr w.heap.size #[.bool b,.slice ad l cap,.slice ad2 m cap2]) (fun i _=>((l:Int) - intOf i).toNat)
 case atStart=>exact ⟨0,Nat.zero_le _,rfl,H1,b1⟩
 case round=>
  obtain⟨k,hk,rfl,hH,hB⟩:=hrel;have hc0:=hB.cell 0;have hc1:=hB.cell 1;have hc2:=hB.cell 2
  rcases Nat.eq_or_lt_of_le hk with hkl |hkl
  ·subst hkl;go_wp2_with fail;clear hc0 hc1 hc2
   go_loopw [3] (fun i wr=>∃j:Nat,j≤m∧i= .int .i64 (j:Int)∧HurtP Q w wr∧Bx 36 wr w.heap.size #[.bool b,.slice ad k cap,.slice ad2 m cap2]) (fun i _=>((m:Int) - intOf i).toNat)
   case atStart=>exact ⟨0,Nat.zero_le _,rfl,hH,hB⟩
   case round=>
    obtain⟨j,hj,rfl,hH2,hB2⟩:=hrel;have hc0:=hB2.cell 0;have hc1:=hB2.cell 1;have hc2:=hB2.cell 2
    rcases Nat.eq_or_lt_of_le hj with hjl |hjl
    ·subst hjl;go_wp2
     go_end0
     exact⟨rfl,hH2⟩
    ·have hsh:ShpP Q _ _:=ShpP.hurtP (s:= .slice ad2 m cap2) ⟨_,_,_,rfl,hm,ht1⟩ hH2;obtain⟨_,_,_,hsl, -,hsg⟩:=hsh
     cases hsl
     obtain⟨g,cur,rfl,hg,hh,hcs⟩:=hsg.resolve_left (by omega);have hcg:=cell_of_row _ g j cur _ _ hh;rw[Array.getElem?_eq_getElem (by omega)]at hcg;have hfg:=frozen_of_row _ g j _ _ hh;go_wp2;go_roundw
     case rel=>exact ⟨j+1,by omega,by simp,hH2.trans (HurtP.setCell hh hg _),hB2.hurtP (HurtP.setCell hh hg _) (by decide)⟩
     case measure=>simp [intOf];omega
  ·have hsh:ShpP Q _ _:=ShpP.hurtP (s:= .slice ad l cap) ⟨_,_,_,rfl,hl,hs1⟩ hH;obtain⟨_,_,_,hsl, -,hsg⟩:=hsh
   cases hsl
   obtain⟨g,cur,rfl,hg,hh,hcs⟩:=hsg.resolve_left (by omega);have hcg:=cell_of_row _ g k cur _ _ hh;rw[Array.getElem?_eq_getElem (by omega)]at hcg;have hfg:=frozen_of_row _ g k _ _ hh;go_wp2;go_roundw
   case rel=>exact ⟨k+1,by omega,by simp,hH.trans (HurtP.setCell hh hg _),hB.hurtP (HurtP.setCell hh hg _) (by decide)⟩
   case measure=>simp [intOf];omega
end Go.Proofs.YthoibjnkhkjnjaaGreat
