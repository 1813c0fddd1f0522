/-
 Vectors: plain: what stands at a place, the one form. No program is named here.
-/
import Derived.WalkKit
import Derived.Test.YtbmnlaepfckmkaaGreatSsfZ
import Derived.Test.YtbmnlaepfckmkaaGreatSsbZ
import Derived.Lib.SliceRun
namespace Go.Proofs.YtbmnlaepfckmkaaGreat
set_option maxRecDepth 100000
set_option maxHeartbeats 1000000
set_option linter.unusedVariables false
set_option linter.unusedSimpArgs false
def sumAt:List (Int×Rat)→Int→Rat
 | [],_=>0
 |x::l,c=>(if x.1=c then x.2 else 0)+sumAt l c
def getV(l:List (Int×Rat))(c:Int):Rat:=if 0≤c then sumAt l c else 0
theorem sumAt_append(l m:List (Int×Rat))(c:Int):sumAt (l++m) c=sumAt l c+sumAt m c:=by
 induction l with
 |nil=>simp [sumAt,Rat.zero_add]
 |cons x l ih=>simp only[List.cons_append,sumAt,ih,Rat.add_assoc]
theorem sumAt_perm{l m:List (Int×Rat)}(h:l.Perm m)(c:Int):sumAt l c=sumAt m c:=by
 induction h with
 |nil=>rfl
 |cons x _ ih=>simp only[sumAt,ih]
 |swap x y l=>simp only[sumAt];grind
 |trans _ _ h1 h2=>exact h1.trans h2
theorem getV_perm{l m:List (Int×Rat)}(h:l.Perm m)(c:Int):getV l c=getV m c:=by
 unfold getV;rw[sumAt_perm h]
theorem getV_append(l m:List (Int×Rat))(c:Int):getV (l++m) c=getV l c+getV m c:=by
 unfold getV;rw[sumAt_append]
 split
 ·rfl
 ·rw[Rat.add_zero]
theorem getV_nil(c:Int):getV [] c=0:=by unfold getV sumAt;split<;>rfl
theorem getV_one(d:Int)(q:Rat)(c:Int):getV [(d,q)] c=if d=c∧0≤c then q else 0:=by
 unfold getV sumAt sumAt
 by_cases h:0≤c<;>by_cases h2:d=c<;>simp [h,h2,Rat.add_zero]
theorem getV_snoc(l:List (Int×Rat))(d:Int)(q:Rat)(c:Int):getV (l++ [(d,q)]) c=getV l c+if d=c∧0≤c then q else 0:=by
 rw[getV_append,getV_one]
theorem sumAt_none{l:List (Int×Rat)}{c:Int}(h:∀x∈l,x.1≠c):sumAt l c=0:=by
 induction l with
 |nil=>rfl
 |cons x l ih=>
  simp only[sumAt];rw[if_neg (h x (List.mem_cons_self ..)),ih fun y hy=>h y (List.mem_cons_of_mem _ hy),Rat.zero_add]
theorem getV_none{l:List (Int×Rat)}{c:Int}(h:∀x∈l,x.1≠c):getV l c=0:=by
 unfold getV;rw[sumAt_none h]
 split<;>rfl
def Up(l:List (Int×Rat)):Prop:=l.Pairwise (fun x y=>x.1<y.1)∧∀x∈l,0≤x.1
def Nf(l:List (Int×Rat)):Prop:=Up l∧∀x∈l,x.2≠0
theorem Up.nil:Up []:=⟨List.Pairwise.nil,fun x hx=>by cases hx⟩
theorem Up.tail{x:Int×Rat}{l:List (Int×Rat)}(h:Up (x::l)):Up l∧0≤x.1∧∀y∈l,x.1<y.1:=by
 obtain⟨h1,h2⟩:=h;rw[List.pairwise_cons]at h1;exact⟨⟨h1.2,fun y hy=>h2 y (List.mem_cons_of_mem _ hy)⟩,h2 x (List.mem_cons_self ..),h1.1⟩
theorem Up.getV_cons{x:Int×Rat}{l:List (Int×Rat)}(h:Up (x::l))(c:Int):getV (x::l) c=if c=x.1 then x.2 else getV l c:=by
 obtain⟨h1,h2,h3⟩:=h.tail
 by_cases hc:c=x.1
 ·subst hc;rw[if_pos rfl];unfold getV;rw[if_pos h2];unfold sumAt;rw[if_pos rfl,sumAt_none fun y hy=>by have:=h3 y hy;omega,Rat.add_zero]
 ·rw[if_neg hc];unfold getV;simp only[sumAt];rw[if_neg (Ne.symm hc),Rat.zero_add]
theorem nf_ext:∀{l m:List (Int×Rat)},Nf l→Nf m→(∀c,getV l c=getV m c)→l=m
 | [],[],_,_,_=>rfl
 | [],y::m,_,hm,h=>by
  have:=h y.1
  rw[getV_nil,hm.1.getV_cons,if_pos rfl]at this;exact absurd this.symm (hm.2 y (List.mem_cons_self ..))
 |x::l,[],hl,_,h=>by
  have:=h x.1
  rw[getV_nil,hl.1.getV_cons,if_pos rfl]at this;exact absurd this (hl.2 x (List.mem_cons_self ..))
 |x::l,y::m,hl,hm,h=>by
  obtain⟨l1,l2,l3⟩:=hl.1.tail;obtain⟨m1,m2,m3⟩:=hm.1.tail;have hx:=h x.1;have hy:=h y.1;rw[hl.1.getV_cons,if_pos rfl,hm.1.getV_cons]at hx;rw[hl.1.getV_cons,hm.1.getV_cons,if_pos rfl]at hy;have x0:=hl.2 x (List.mem_cons_self ..);have y0:=hm.2 y (List.mem_cons_self ..)
  have hxy:x.1=y.1:=by
   rcases Int.lt_trichotomy x.1 y.1 with h1 |h1 |h1
   ·rw[if_neg (by omega),getV_none fun z hz=>by have:=m3 z hz;omega]at hx;exact absurd hx x0
   ·exact h1
   ·rw[if_neg (by omega),getV_none fun z hz=>by have:=l3 z hz;omega]at hy;exact absurd hy.symm y0
  rw[if_pos hxy]at hx
  have e:x=y:=Prod.ext hxy hx
  subst e;rw[nf_ext (l:=l) (m:=m) ⟨l1,fun z hz=>hl.2 z (List.mem_cons_of_mem _ hz)⟩ ⟨m1,fun z hz=>hm.2 z (List.mem_cons_of_mem _ hz)⟩ fun c=> ?_]
  have:=h c
  rw[hl.1.getV_cons,hm.1.getV_cons]at this
  by_cases hc:c=x.1
  ·subst hc;rw[getV_none fun z hz=>by have:=l3 z hz;omega,getV_none fun z hz=>by have:=m3 z hz;omega]
  ·rw[if_neg hc,if_neg hc]at this;exact this
def nz(l:List (Int×Rat)):List (Int×Rat):=l.filter fun x=> !decide (x.2=0)
theorem Up.nz{l:List (Int×Rat)}(h:Up l):Nf (nz l):=
 ⟨⟨h.1.sublist List.filter_sublist,fun x hx=>h.2 x (List.mem_filter.1 hx).1⟩,fun x hx=>by have:=(List.mem_filter.1 hx).2;simpa using this⟩
theorem sumAt_nz(l:List (Int×Rat))(c:Int):sumAt (nz l) c=sumAt l c:=by
 induction l with
 |nil=>rfl
 |cons x l ih=>
  unfold nz at ih ⊢
  by_cases hx:x.2=0
  ·rw[List.filter_cons_of_neg (by simp[hx]),ih];simp only[sumAt,hx]
   split<;>rw [Rat.zero_add]
  ·rw[List.filter_cons_of_pos (by simp[hx])];simp only[sumAt,ih]
theorem getV_nz(l:List (Int×Rat))(c:Int):getV (nz l) c=getV l c:=by
 unfold getV;rw[sumAt_nz]
theorem Up.snoc{l:List (Int×Rat)}(h:Up l){d:Int}{q:Rat}(hd:0≤d)(hl:∀x∈l,x.1<d):Up (l++ [(d,q)]):=by
 refine⟨List.pairwise_append.2 ⟨h.1,List.pairwise_singleton _ _,fun x hx y hy=> ?_⟩,fun x hx=> ?_⟩
 ·rw[List.mem_singleton]at hy;subst hy;exact hl x hx
 ·rcases List.mem_append.1 hx with hx |hx
  ·exact h.2 x hx
  ·rw[List.mem_singleton]at hx;subst hx;exact hd
theorem Up.last{l:List (Int×Rat)}{d:Int}{q r:Rat}(h:Up (l++ [(d,q)])):Up (l++ [(d,r)])∧∀c,getV (l++ [(d,r)]) c=getV (l++ [(d,q)]) c+if d=c∧0≤c then r - q else 0:=by
 obtain⟨h1,h2⟩:=h;rw[List.pairwise_append]at h1;refine⟨⟨List.pairwise_append.2 ⟨h1.1,List.pairwise_singleton _ _,fun x hx y hy=> ?_⟩,fun x hx=> ?_⟩,fun c=> ?_⟩
 ·rw[List.mem_singleton]at hy;subst hy;exact h1.2.2 x hx (d,q) (List.mem_singleton.2 rfl)
 ·rcases List.mem_append.1 hx with hx |hx
  ·exact h2 x (List.mem_append_left _ hx)
  ·rw[List.mem_singleton]at hx;subst hx;exact h2 (d,q) (List.mem_append_right _ (List.mem_singleton.2 rfl))
 ·rw[getV_snoc,getV_snoc]
  split<;>grind
def putV(c:Int)(q:Rat):List (Int×Rat)→List (Int×Rat)
 | []=> [(c,q)]
 |x::l=>if c<x.1 then(c,q)::x::l else if c=x.1 then(c,q+x.2)::l else x::putV c q l
theorem putV_mem(c:Int)(q:Rat):∀(l:List (Int×Rat)) (y:Int×Rat),y∈putV c q l→y.1=c∨∃z∈l,y.1=z.1
 | [],y,h=>by
  simp only[putV,List.mem_singleton]at h;subst h;exact .inl rfl
 |x::l,y,h=>by
  simp only[putV]at h
  split at h
  ·rcases List.mem_cons.1 h with rfl |h
   ·exact .inl rfl
   ·exact .inr ⟨y,h,rfl⟩
  ·split at h
   ·rcases List.mem_cons.1 h with rfl |h
    ·exact .inl rfl
    ·exact .inr ⟨y,List.mem_cons_of_mem _ h,rfl⟩
   ·rcases List.mem_cons.1 h with rfl |h
    ·exact .inr ⟨y,List.mem_cons_self ..,rfl⟩
    ·rcases putV_mem c q l y h with h |⟨z,hz,h⟩
     ·exact .inl h
     ·exact .inr ⟨z,List.mem_cons_of_mem _ hz,h⟩
theorem putV_up{c:Int}(q:Rat)(hc:0≤c):∀{l:List (Int×Rat)},Up l→Up (putV c q l)∧∀d,sumAt (putV c q l) d=(if c=d then q else 0)+sumAt l d
 | [],_=>⟨⟨List.pairwise_singleton _ _,fun x hx=>by simp only[putV,List.mem_singleton]at hx;subst hx;exact hc⟩,fun d=>by simp only[putV,sumAt]⟩
 |x::l,h=>by
  obtain⟨h1,h2,h3⟩:=h.tail;simp only[putV]
  split
  ·refine⟨⟨List.pairwise_cons.2 ⟨fun y hy=> ?_,h.1⟩,fun y hy=> ?_⟩,fun d=>by simp only[sumAt]⟩
   ·rcases List.mem_cons.1 hy with rfl |hy
    ·assumption
    ·have:=h3 y hy;simp only;omega
   ·rcases List.mem_cons.1 hy with rfl |hy
    ·exact hc
    ·exact h.2 y hy
  ·split
   ·rename_i _ he
    subst he;refine⟨⟨List.pairwise_cons.2 ⟨fun y hy=>h3 y hy,h1.1⟩,fun y hy=> ?_⟩,fun d=> ?_⟩
    ·rcases List.mem_cons.1 hy with rfl |hy
     ·exact h2
     ·exact h1.2 y hy
    ·simp only[sumAt]
     split<;>grind
   ·obtain⟨i1,i2⟩:=putV_up q hc h1;refine⟨⟨List.pairwise_cons.2 ⟨fun y hy=> ?_,i1.1⟩,fun y hy=> ?_⟩,fun d=> ?_⟩
    ·rcases putV_mem c q l y hy with h4 |⟨z,hz,h4⟩
     ·omega
     ·have:=h3 z hz;omega
    ·rcases List.mem_cons.1 hy with rfl |hy
     ·exact h2
     ·exact i1.2 y hy
    ·simp only[sumAt,i2]
     grind
def upV:List (Int×Rat)→List (Int×Rat)
 | []=> []
 |x::l=>if 0≤x.1 then putV x.1 x.2 (upV l)else upV l
theorem upV_up:∀l:List (Int×Rat),Up (upV l)∧∀c,getV (upV l) c=getV l c
 | []=>⟨Up.nil,fun c=>rfl⟩
 |x::l=>by
  obtain⟨h1,h2⟩:=upV_up l;unfold upV
  split
  ·rename_i hx
   obtain⟨h3,h4⟩:=putV_up x.2 hx h1;refine⟨h3,fun c=> ?_⟩
   have:=h2 c
   unfold getV at this ⊢
   split
   ·rename_i hc
    rw[if_pos hc,if_pos hc]at this;rw[h4,this]
    rfl
   ·rfl
  ·rename_i hx
   refine⟨h1,fun c=> ?_⟩;rw[h2 c];unfold getV
   split
   ·simp only[sumAt];rw[if_neg (by omega),Rat.zero_add]
   ·rfl
def mkV(l:List (Int×Rat)):List (Int×Rat):=nz (upV l)
theorem mkV_nf(l:List (Int×Rat)):Nf (mkV l):=(upV_up l).1.nz
theorem mkV_get(l:List (Int×Rat))(c:Int):getV (mkV l) c=getV l c:=by
 unfold mkV;rw[getV_nz,(upV_up l).2]
theorem mkV_eq{l m:List (Int×Rat)}(hm:Nf m)(h:∀c,getV m c=getV l c):m=mkV l:=nf_ext hm (mkV_nf l) fun c=>by rw[h,mkV_get]
def dotV:List (Int×Rat)→List Rat→Rat
 | [],_=>0
 |x::l,y=>(if 0≤x.1∧x.1<(y.length:Int)then x.2*y.getD x.1.toNat 0 else 0)+dotV l y
theorem dotV_append(l m:List (Int×Rat))(y:List Rat):dotV (l++m) y=dotV l y+dotV m y:=by
 induction l with
 |nil=>simp [dotV,Rat.zero_add]
 |cons x l ih=>simp only[List.cons_append,dotV,ih,Rat.add_assoc]
open Go.RowKit
def TmR(k:Nat)(w:World)(v:Value)(x:Int×Rat):Prop:=∃b a1 n1 c1 a2 n2 c2,v= .agg #[.int .i64 x.1,.bool b,.slice a1 n1 c1,.slice a2 n2 c2]∧IsR w (.agg #[.bool b,.slice a1 n1 c1,.slice a2 n2 c2]) x.2 k
theorem TmR.ext{k:Nat}{w w':World}{v:Value}{x:Int×Rat}(h:TmR k w v x)(he:Ext w w'):TmR k w' v x:=by
 obtain⟨b,a1,n1,c1,a2,n2,c2,h1,h2⟩:=h;exact⟨b,a1,n1,c1,a2,n2,c2,h1,h2.ext he⟩
def TL(k:Nat)(w:World)(u:Value)(l:List (Int×Rat)):Prop:=SL 4 (TmR k) w u l
theorem TL.ext{k:Nat}{w w':World}{u:Value}{l:List (Int×Rat)}(h:TL k w u l)(he:Ext w w'):TL k w' u l:=SL.ext (fun _ _ h=>h.ext he) h he
theorem TL.at{k:Nat}{w:World}{u:Value}{l:List (Int×Rat)}(h:TL k w u l):∃ad m cap,m=l.length∧u= .slice ad m cap∧m≤9223372036854775807∧∀(i:Nat) (x:Int×Rat),l[i]? =some x→∃g off,ad=some ⟨g,off,none⟩∧∃b a1 n1 c1 a2 n2 c2,
  ∀wz,Ext w wz→wz.cell? ⟨g,off+i*4,none⟩=some (.int .i64 x.1)∧wz.cell? ⟨g,off+i*4+1,none⟩=some (.bool b)∧wz.cell? ⟨g,off+i*4+2,none⟩=some (.slice a1 n1 c1)∧wz.cell? ⟨g,off+i*4+3,none⟩=some (.slice a2 n2 c2)∧IsR wz (.agg #[.bool b,.slice a1 n1 c1,.slice a2 n2 c2]) x.2 k:=by
 obtain⟨ad,m,cap,h1,h2,h3,h4⟩:=h.opn;refine⟨ad,m,cap,h1,h2,h3,fun i e hi=> ?_⟩;obtain⟨g,off,k1,cs,k2,k3,b,a1,n1,c1,a2,n2,c2,j1,j2⟩:=h4 i e hi
 cases j1
 exact⟨g,off,k1,b,a1,n1,c1,a2,n2,c2,fun wz hz=>⟨k3 wz hz 0 _ rfl,k3 wz hz 1 _ rfl,k3 wz hz 2 _ rfl,k3 wz hz 3 _ rfl,j2.ext hz⟩⟩
def ratv(t:TmC):Value:= .agg #[.bool t.b,.slice t.a1 t.n1 t.c1,.slice t.a2 t.n2 t.c2]
def TO(B k:Nat)(w:World)(v:Value)(m:List (Int×Rat)):Prop:=∃ts:List TmC,ts.length=m.length∧LS 95 4 B w v (ts.map tmv)∧∀(i:Nat) (t:TmC) (x:Int×Rat),ts[i]? =some t→m[i]? =some x→t.c=x.1∧FrQ B w (ratv t) x.2∧szQ x.2≤k
theorem FrQ.chgN{B:Nat}{w w':World}{v:Value}{q:Rat}{g:Nat}{t:TypeId}{cs cs':Array Value}(h:FrQ B w v q)(hc:Chg g w w')(hb:Bx t w g cs)(hb':Bx t w' g cs')(ht:t≠173)(ht2:t≠3):FrQ B w' v q:=h.tchg (S:=0) ⟨g,t,cs,cs',Nat.zero_le _,ht,ht2,rfl,hb,hb',hc⟩
theorem TO.ext{B k:Nat}{w w':World}{v:Value}{m:List (Int×Rat)}(h:TO B k w v m)(he:Ext w w'):TO B k w' v m:=by
 obtain⟨ts,h1,h2,h3⟩:=h;exact⟨ts,h1,h2.ext he,fun i t x h4 h5=>(let ⟨a,b,c⟩:=h3 i t x h4 h5;⟨a,b.ext he,c⟩)⟩
theorem TO.mono{B B' k:Nat}{w:World}{v:Value}{m:List (Int×Rat)}(h:TO B k w v m)(hB:B'≤B):TO B' k w v m:=by
 obtain⟨ts,h1,h2,h3⟩:=h;exact⟨ts,h1,h2.mono hB,fun i t x h4 h5=>(let ⟨a,b,c⟩:=h3 i t x h4 h5;⟨a,b.mono hB,c⟩)⟩
theorem TO.tl{B k:Nat}{w:World}{v:Value}{m:List (Int×Rat)}(h:TO B k w v m)(hk:k≤LIM):TL k w v m:=by
 obtain⟨ts,h1,h2,h3⟩:=h;obtain⟨ad,cap,e1,e2,e3, -⟩:=h2.opn;rw[List.length_map,h1]at e1 e2;refine⟨ad,cap,e1,e2,e3,?_⟩
 rcases Nat.eq_zero_or_pos m.length with h0 |h0
 ·exact .inl (List.eq_nil_of_length_eq_zero h0)
 ·obtain⟨g,cap',rest,f1,f2, -⟩:=h2.hold (by rw[List.length_map];omega);rw[e1]at f1;simp only[Value.slice.injEq]at f1;obtain⟨f1, -, -⟩:=f1;refine .inr ⟨g,0,f1,fun i x hi=> ?_⟩;obtain⟨t,ht⟩:∃t,ts[i]? =some t:=⟨_,List.getElem?_eq_getElem (by have:=(List.getElem?_eq_some_iff.1 hi).1;omega)⟩;obtain⟨k1,k2,k3⟩:=h3 i t x ht hi;obtain⟨g',cap2,j1,j2,cs,j3,j4,j5,j6⟩:=h2.at (by omega) (i:=i) (u:=tmv t) (by rw[List.getElem?_map,ht];rfl);rw[e1]at j1;simp only[Value.slice.injEq,f1,Option.some.injEq,Addr.mk.injEq]at j1;obtain⟨⟨rfl, -⟩, -⟩:=j1;refine⟨cs,j4,fun j u hj=> ?_,?_⟩
  ·rw[Nat.zero_add];exact(j6 w (Ext.refl w) j u hj).1
  ·unfold tmv at j3
   cases j3
   exact⟨_,_,_,_,_,_,_,by rw[k1],k2.isR k3 hk⟩
def GetJ(w wr:World)(g k i:Nat)(q:Rat):Prop:=Ext w wr∧∃b a1 n1 c1 a2 n2 c2,Bx 41 wr g #[.bool b,.slice a1 n1 c1,.slice a2 n2 c2]∧FrQ w.heap.size wr (.agg #[.bool b,.slice a1 n1 c1,.slice a2 n2 c2]) q∧szQ q≤i*(k+1)+1
theorem dotV_nil(y:List Rat):dotV [] y=0:=rfl
def QL(k:Nat)(w:World)(u:Value)(l:List Rat):Prop:=SL 3 (fun w v q=>IsR w v q k) w u l
theorem QL.ext{k:Nat}{w w':World}{u:Value}{l:List Rat}(h:QL k w u l)(he:Ext w w'):QL k w' u l:=SL.ext (fun _ _ h=>h.ext he) h he
theorem QL.at{k:Nat}{w:World}{u:Value}{l:List Rat}(h:QL k w u l):∃ad m cap,m=l.length∧u= .slice ad m cap∧m≤9223372036854775807∧∀(i:Nat) (x:Rat),l[i]? =some x→∃g off,ad=some ⟨g,off,none⟩∧∃b a1 n1 c1 a2 n2 c2,
  (∀wz,Ext w wz→∀(j:Nat) (v:Value),(#[.bool b,.slice a1 n1 c1,.slice a2 n2 c2]:Array Value)[j]? =some v→wz.cell? ⟨g,off+i*3+j,none⟩=some v)∧IsR w (.agg #[.bool b,.slice a1 n1 c1,.slice a2 n2 c2]) x k:=by
 obtain⟨ad,m,cap,h1,h2,h3,h4⟩:=h.opn;refine⟨ad,m,cap,h1,h2,h3,fun i e hi=> ?_⟩;obtain⟨g,off,k1,cs,k2,k3,j2⟩:=h4 i e hi;obtain⟨b,a1,n1,c1,a2,n2,c2,j1⟩:=j2.parts
 cases j1
 exact⟨g,off,k1,b,a1,n1,c1,a2,n2,c2,k3,j2⟩
set_option maxHeartbeats 4000000 in
theorem vdot_calls(k kx:Nat)(v u:Value)(l:List (Int×Rat))(xs:List Rat)(w:World)(hl:TL k w v l)(hx:QL kx w u xs)(hk:(l.length+1)*(k+kx+1)≤34359738000):
  Calls Tryz.prog 101 #[v,u] w fun e w'=>∃v',e= .returned v'∧FrQ w.heap.size w' v' (dotV l xs)∧szQ (dotV l xs)≤l.length*(k+kx+1)+1∧Ext w w':=by
 obtain⟨ad,n,cap,hn,rfl,hn1,hat⟩:=hl.at;rw[←hn]at hk ⊢;have Hn:=Lib.hid hn;have Hat:=Lib.hid hat;obtain⟨adx,nx,capx,hnx,rfl,hnx1,hatx⟩:=hx.at;have Hnx:=Lib.hid hnx;have Hatx:=Lib.hid hatx;clear hn hl hat hnx hx hatx
 go_enter Tryz.func101,Tryz.ntmps101
 obtain⟨w1,hw1,e1,b1,s1⟩:=alloc1 w #[.bool false,.slice none 0 0,.slice none 0 0] 41;go_wp2_with fail;rw[←hw1];refine(rwhole_calls 0 _ (by omega) (by omega)).mono ?_;rintro e w2 ⟨v2,rfl,q2,e2⟩;obtain⟨b,ad2,l2,cap2,bd,m2,dap,rfl,q2⟩:=q2.opn;have Hq2:=Lib.hid q2;obtain⟨w3,hw3,e3,b3,s3⟩:=alloc1 w2 #[.bool b,.slice ad2 l2 cap2,.slice bd m2 dap] 41;clear q2;go_wp2_with fail;rw[←hw3];have HJ:GetJ w w3 w2.heap.size (k+kx) 0 (dotV (l.take 0) xs):=⟨(e1.trans e2).trans e3,_,_,_,_,_,_,_,b3,by rw[List.take_zero,dotV_nil];exact(Hq2.out.ext e3).mono e1.size,by rw[List.take_zero,dotV_nil,Nat.zero_mul];decide⟩;have HJ0:=Lib.hid HJ
 have hs2:w.heap.size<w2.heap.size:=by have:=e1.size;have:=e2.size;have:=b1.lt;have:=s1;omega
 obtain⟨g5,hg5⟩:∃g5,g5=w2.heap.size:=⟨_,rfl⟩;rw[←hg5]at HJ0 hs2 ⊢;have B1:Bx 41 w3 w.heap.size #[.bool false,.slice none 0 0,.slice none 0 0]:=(b1.ext e2).ext e3;clear HJ hw1 hw3 hg5 Hq2
 go_loopw [11] (fun s11 wr=>∃i:Nat,i≤n∧s11= .int .i64 (i:Int)∧Hid (GetJ w wr g5 (k+kx) i (dotV (l.take i) xs)∧Bx 41 wr w.heap.size #[.bool false,.slice none 0 0,.slice none 0 0])) (fun s11 _=>((n:Int) - intOf s11).toNat)
 case atStart=>exact ⟨0,Nat.zero_le _,rfl,Lib.hid ⟨HJ0.out,B1⟩⟩
 case round=>
  obtain⟨i,hi,rfl,hH⟩:=hrel;obtain⟨⟨hE0,rb,r1,m1,d1,r2,m2',d2,hbx,hq,hsz⟩,hB0⟩:=hH.out;have HQ:=Lib.hid hq;have HSZ:=Lib.hid hsz;clear hq hsz hH HJ0 B1 b1 b3 e1 e2 e3 s1 s3
  rcases Nat.eq_or_lt_of_le hi with hin |hin
  ·subst hin
   have hlt:¬((i:Int)<(i:Int)):=by omega
   have hcx0:=hbx.cell 0;have hcx1:=hbx.cell 1;have hcx2:=hbx.cell 2;have hb:=hB0;have hc0:=hb.cell 0;have hc1:=hb.cell 1;have hc2:=hb.cell 2;have hf0:=hb.free 0;have hf1:=hb.free 1;have hf2:=hb.free 2;clear hbx;have hszw:=hE0.size;go_wp2;have HQ2:=HQ.out;rw[show l.take i=l by rw[Hn.out,List.take_length]]at HQ2 HSZ;refine ret_box 4 41 w.heap.size 41 _ _ (by kernel_rfl) rfl (((hb.set 0 _).set 1 _).set 2 _) Tryz.underlying41 rfl (by kernel_rfl) rfl ?_;exact⟨_,rfl,HQ2.chgN (Chg.trans (Chg.trans (Chg.setCell _ w.heap.size 0 _) (Chg.setCell _ w.heap.size 1 _)) (Chg.setCell _ w.heap.size 2 _)) hB0 (((hb.set 0 _).set 1 _).set 2 _) (by decide) (by decide),HSZ.out,hE0.step (Chg.trans (Chg.trans (Chg.setCell _ w.heap.size 0 _) (Chg.setCell _ w.heap.size 1 _)) (Chg.setCell _ w.heap.size 2 _)) (by omega)⟩
  ·have hlt:(i:Int)<(n:Int):=by omega
   obtain⟨x,hx⟩:∃x,l[i]? =some x:=⟨_,List.getElem?_eq_getElem (by rw[←Hn.out];exact hin)⟩;obtain⟨g,off,rfl,b',a1,n1,c1,a2,n2,c2,hcell⟩:=Hat.out i x hx;obtain⟨hc0,hc1,hc2,hc3,hIsR⟩:=hcell wr (((Ext.refl w).trans hE0));have HX:=Lib.hid (And.intro hx hIsR)
   have htk:l.take (i+1)=l.take i++ [x]:=by rw[List.take_add_one,hx];rfl
   obtain⟨xc,xq⟩:=x
   simp only at hc0 hc1 hc2 hc3 HX htk
   have HTK:=Lib.hid htk;obtain⟨w5,hw5,e5,b5,s5⟩:=alloc1 wr #[.int .i64 xc,.bool b',.slice a1 n1 c1,.slice a2 n2 c2] 95;have hq0:=(hbx.ext e5).cell 0;have hq1:=(hbx.ext e5).cell 1;have hq2:=(hbx.ext e5).cell 2;rw[hw5]at hq0 hq1 hq2;clear hx hIsR htk hcell;have E5:=hE0.trans e5
   have hmul:i*(k+kx+1)+(k+kx+1)=(i+1)*(k+kx+1):=by rw[Nat.succ_mul]
   have hle:(i+1)*(k+kx+1)≤(n+1)*(k+kx+1):=Nat.mul_le_mul_right _ (by omega)
   by_cases hcc:0≤xc∧xc<(nx:Int)
   ·obtain⟨cn,rfl⟩:∃cn:Nat,xc=(cn:Int):=⟨xc.toNat,by omega⟩
    have hcn:cn<nx:=by omega
    have hcn':(cn:Int)<(nx:Int):=by omega
    have hcn0:(0:Int)≤(cn:Int):=by omega
    obtain⟨y,hy⟩:∃y,xs[cn]? =some y:=⟨_,List.getElem?_eq_getElem (by rw[←Hnx.out];exact hcn)⟩;obtain⟨gx,offx,rfl,yb,y1,z1,p1,y2,z2,p2,hycell,hyR⟩:=Hatx.out cn y hy;have HCY:=Lib.hid hycell;have HYR:=Lib.hid hyR
    have hgv:dotV (l.take (i+1)) xs=dotV (l.take i) xs+xq*y:=by
     rw[HTK.out,dotV_append];simp only[dotV,Rat.add_zero];rw[if_pos ⟨hcn0,by rw[←Hnx.out];exact hcn'⟩]
     have:xs.getD (cn:Int).toNat 0=y:=by simp[List.getD,hy]
     rw[this]
    have HGV:=Lib.hid hgv;clear hcc hy hycell hyR hgv;go_wp2_with fail;rw[←hw5];clear hw5 hq0 hq1 hq2 hc0 hc1 hc2 hc3;have B5:=hbx.ext e5;have h5g:g5<w5.heap.size:=B5.lt;refine wpP [⟨10,g5,41,PP.frQS (dotV (l.take i) xs+xq*y) ((i+1)*(k+kx+1)+1)⟩] [PP.val (.agg #[.bool rb,.slice r1 m1 d1,.slice r2 m2' d2]),PP.val (.pointer (some ⟨wr.heap.size,1,none⟩)),PP.val (.agg #[.bool b',.slice a1 n1 c1,.slice a2 n2 c2]),PP.val (.slice (some ⟨gx,offx,none⟩) nx capx),PP.val (.pointer (some ⟨wr.heap.size,0,none⟩)),PP.val (.int .i64 (cn:Int)),PP.val (.pointer (some ⟨gx,offx+cn*3,none⟩)),PP.val (.agg #[.bool yb,.slice y1 z1 p1,.slice y2 z2 p2]),PP.frQS (xq*y) (k+kx),PP.frQS (dotV (l.take i) xs+xq*y) ((i+1)*(k+kx+1)+1),PP.any] [] [10,9,8,7,6,5,4,3,2,1,0] ?_ ?_ ?_ ?_ ?_
    ·intro x hx;simp only[List.mem_singleton]at hx;subst hx;exact⟨by show g5<w5.heap.size;omega,rfl⟩
    ·intro x hx;simp only[List.mem_singleton]at hx;subst hx;rfl
    ·intro x hx y hy h;simp only[List.mem_singleton]at hx hy;subst hx hy;exact absurd rfl h
    ·refine⟨?_,?_,?_,?_,?_,?_,?_,?_,?_,?_,?_,trivial⟩
     ·intro f w6 hG hp hl;have hE:Ext w5 w6:=hG;change OpGoal _ _ _ f w6 Ext _;exact og_load (P:=Tryz.prog) _ _ g5 _ _ _ rfl rfl rfl (B5.ext hE) Tryz.underlying41 rfl (by kernel_rfl) rfl
     ·intro f w6 hG hp hl;simp only[OpGoal];go_simp;exact⟨_,rfl,Ext.refl _,rfl⟩
     ·intro f w6 hG hp hl;have hE:Ext w5 w6:=hG;have q26:=tE hp 0 1 rfl rfl rfl;have hbx:=b5.ext hE;have hcell0:=hbx.cell 0;have hcell1:=hbx.cell 1;have hcell2:=hbx.cell 2;have hcell3:=hbx.cell 3;simp only[OpGoal];go_simp;exact⟨_,rfl,Ext.refl _,rfl⟩
     ·intro f w6 hG hp hl;simp only[OpGoal];go_simp;exact⟨_,rfl,Ext.refl _,rfl⟩
     ·intro f w6 hG hp hl;simp only[OpGoal];go_simp;exact⟨_,rfl,Ext.refl _,rfl⟩
     ·intro f w6 hG hp hl;have hE:Ext w5 w6:=hG;have q29:=tE hp 0 4 rfl rfl rfl;have hcell:=(b5.ext hE).cell 0;simp only[OpGoal];go_simp;exact⟨_,rfl,Ext.refl _,rfl⟩
     ·intro f w6 hG hp hl;have q28:=tE hp 0 3 rfl rfl rfl;have q30:=tE hp 1 5 rfl rfl rfl;simp only[OpGoal];go_simp;exact⟨_,rfl,Ext.refl _,rfl⟩
     ·intro f w6 hG hp hl;have hE:Ext w5 w6:=hG;have q31:=tE hp 0 6 rfl rfl rfl;change OpGoal _ _ _ f w6 Ext _;exact og_loadAt (P:=Tryz.prog) _ _ gx (offx+cn*3) _ _ rfl rfl q31 (fun j v h=>HCY.out _ (E5.trans hE) j v h) Tryz.underlying41 rfl (by kernel_rfl) rfl
     ·intro f w6 hG hp hl;have hE:Ext w5 w6:=hG;have hS:=hE.size;have q27:=tE hp 0 2 rfl rfl rfl;have q32:=tE hp 1 7 rfl rfl rfl;change OpGoal _ _ _ f w6 Ext _;refine oC #[f 2,f 7] Tryz.func117 rfl rfl ?_;rw[q27,q32];refine(rmul_calls _ _ xq y k kx _ (HX.out.2.ext (e5.trans hE)) (HYR.out.ext (E5.trans hE)) (by omega)).mono ?_;rintro e w' ⟨v',rfl,h1,h3,h2⟩;exact⟨v',rfl,h2,h1.mono hS,h3⟩
     ·intro f w6 hG hp hl;have hE:Ext w5 w6:=hG;have hS:=hE.size;have q25:=tE hp 0 0 rfl rfl rfl;have q33:=tellV hp 1 8 rfl rfl (fun _=>hE);change OpGoal _ _ _ f w6 Ext _;refine oC #[f 0,f 8] Tryz.func131 rfl rfl ?_;rw[q25];refine(radd_calls _ _ (dotV (l.take i) xs) (xq*y) (i*(k+kx+1)+1) (k+kx) _ ((HQ.out.ext (e5.trans hE)).isR HSZ.out (by rw[LIM_eq];omega)) (q33.1.isR q33.2 (by rw[LIM_eq];omega)) (by omega)).mono ?_;rintro e w' ⟨v',rfl,h1,h3,h2⟩;exact⟨v',rfl,h2,h1.mono hS,by omega⟩
     ·intro f w6 hG hp hl;have hE:Ext w5 w6:=hG;have hS:=hE.size;have q34:=tellV hp 0 9 rfl rfl (fun _=>hE);intro hg0;change OpGoal _ _ _ f w6 (Chg _) _;obtain⟨⟨s',t',hv,hn,hm⟩,hsz⟩:=q34;exact og_store (P:=Tryz.prog) _ _ _ g5 _ _ _ (PP.frQS _ _:PP _).p rfl rfl rfl hv (show Bx 41 w6 _ _ from hg0.trans B5) (by kernel_rfl) rfl (all3 rfl hn.oneCell hm.oneCell) (fun w' h=>⟨⟨s',t',rfl,hn.chg h (by omega),hm.chg h (by omega)⟩,hsz⟩)
    ·intro f w6 hG hp;obtain⟨cs0,hbx0,hz0⟩:∃cs,Bx 41 w6 g5 cs∧(PP.frQS (dotV (l.take i) xs+xq*y) ((i+1)*(k+kx+1)+1):PP w5.heap.size).p (.agg cs) w6:=endS hp 10 (by decide);clear hp;obtain⟨hz1,hz2⟩:=hz0;obtain⟨b6,a6,l6,cap6,a7,l7,cap7,hvv,hz1⟩:=hz1.opn
     cases hvv
     have Hq6:=Lib.hid hz1;have Z6:=Lib.hid hz2;have hsz6:=E5.size;have E6:Ext w w6:=E5.stepS hG (by simp;omega);have B06:Bx 41 w6 w.heap.size #[.bool false,.slice none 0 0,.slice none 0 0]:=(hB0.ext e5).chgS hG (by simp;omega);clear hz1 hz2;go_wp2;go_roundw
     case rel=>
      refine⟨i+1,by omega,congrArg (Value.int .i64) (by omega),Lib.hid ⟨⟨E6,_,_,_,_,_,_,_,hbx0,?_,?_⟩,B06⟩⟩
      ·rw[HGV.out];exact Hq6.out.mono hsz6
      ·rw[HGV.out];exact Z6.out
     case measure=>simp [intOf];omega
   ·by_cases hx0:xc<0
    ·have hx0':¬0≤xc:=by omega
     have hgv:dotV (l.take (i+1)) xs=dotV (l.take i) xs:=by
      rw[HTK.out,dotV_append];simp only[dotV,Rat.add_zero];rw[if_neg (by rw[←Hnx.out];exact hcc),Rat.add_zero]
     have HGV:=Lib.hid hgv;clear hgv hcc;go_wp2;go_roundw
     case rel=>
      rw[←hw5];refine⟨i+1,by omega,congrArg (Value.int .i64) (by omega),Lib.hid ⟨⟨E5,_,_,_,_,_,_,_,hbx.ext e5,?_,?_⟩,hB0.ext e5⟩⟩
      ·rw[HGV.out];exact HQ.out.ext e5
      ·rw[HGV.out]
       have:=HSZ.out
       omega
     case measure=>simp [intOf];omega
    ·have hx1:0≤xc:=by omega
     have hx2:¬xc<(nx:Int):=fun h=>hcc ⟨hx1,h⟩
     have hgv:dotV (l.take (i+1)) xs=dotV (l.take i) xs:=by
      rw[HTK.out,dotV_append];simp only[dotV,Rat.add_zero];rw[if_neg (by rw[←Hnx.out];exact hcc),Rat.add_zero]
     have HGV:=Lib.hid hgv;clear hgv hcc;go_wp2;go_roundw
     case rel=>
      rw[←hw5];refine⟨i+1,by omega,congrArg (Value.int .i64) (by omega),Lib.hid ⟨⟨E5,_,_,_,_,_,_,_,hbx.ext e5,?_,?_⟩,hB0.ext e5⟩⟩
      ·rw[HGV.out];exact HQ.out.ext e5
      ·rw[HGV.out]
       have:=HSZ.out
       omega
     case measure=>simp [intOf];omega
theorem flatS_cells{n:Nat}(hn:0<n){vs:List Value}(h5:StrN n vs){p:Nat→Value→Prop}(h:∀(i:Nat) (cs:Array Value),vs[i]? =some (.agg cs)→∀(r:Nat) (u:Value),cs[r]? =some u→p (i*n+r) u):∀(j:Nat) (u:Value),(flatS vs)[j]? =some u→p j u:=by
 intro j u hj;have hlt:=(List.getElem?_eq_some_iff.1 hj).1;rw[flatS_len h5.size]at hlt
 have hdm:j / n*n+j % n=j:=by rw[Nat.mul_comm];exact Nat.div_add_mod j n
 have hi:j / n<vs.length:=Nat.div_lt_of_lt_mul (by rw[Nat.mul_comm];exact hlt);obtain⟨v,hv⟩:∃v,vs[j / n]? =some v:=⟨_,List.getElem?_eq_getElem hi⟩;obtain⟨cs,rfl,hc, -⟩:=h5 v (List.mem_of_getElem? hv);rw[←hdm];refine h _ cs hv _ u ?_;rw[←hdm,flatS_get hn h5.size hv _ (Nat.mod_lt _ hn)]at hj;exact hj
abbrev Ps:=List (TmC×Rat)
def tsP(ps:Ps):List TmC:=ps.map Prod.fst
def lP(ps:Ps):List (Int×Rat):=ps.map fun p=>(p.1.c,p.2)
theorem perm_lift:∀{ts:List TmC} {ps:Ps},ts.Perm (tsP ps)→∃ps':Ps,ps'.Perm ps∧tsP ps'=ts
 | [],ps,h=>by
  have:=h.length_eq
  unfold tsP at this;rw[List.length_map,List.length_nil]at this
  have:ps=[]:=List.eq_nil_of_length_eq_zero this.symm
  exact⟨[],by rw[this],rfl⟩
 |t::ts,ps,h=>by
  have hm:t∈tsP ps:=h.mem_iff.1 (List.mem_cons_self ..);obtain⟨p,hp,rfl⟩:=List.mem_map.1 hm;obtain⟨a,b,rfl⟩:=List.append_of_mem hp
  have h2:(p.1::ts).Perm (p.1::tsP (a++b)):=h.trans (by
   unfold tsP;rw[List.map_append,List.map_append,List.map_cons]
   exact List.perm_middle)
  obtain⟨ps',h3,h4⟩:=perm_lift (ps:=a++b) h2.cons_inv;exact⟨p::ps',(h3.cons p).trans List.perm_middle.symm,by unfold tsP at h4 ⊢;rw[List.map_cons,h4]⟩
theorem lP_perm{ps ps':Ps}(h:ps'.Perm ps):(lP ps').Perm (lP ps):=h.map _
theorem infoT:∃i0 z,Tryz.prog.info? 95=some i0∧i0.size=4∧i0.bytes=64∧i0.zero=some z∧z.cells.size=4:=by
 have h:(Tryz.prog.info? 95).map (fun i=>(i.size,i.bytes,i.zero.map fun z=>z.cells.size))=some (4,64,some 4):=by kernel_rfl
 cases hi:Tryz.prog.info? 95 with
 |none=>rw [hi]at h;cases h
 |some i=>
  rw[hi]at h;simp only[Option.map_some,Option.some.injEq,Prod.mk.injEq]at h;obtain⟨h1,h2,h3⟩:=h
  cases hz:i.zero with
  |none=>rw [hz]at h3;cases h3
  |some z=>rw [hz]at h3;exact⟨i,z,rfl,h1,h2,hz,by simpa using h3⟩
set_option maxHeartbeats 4000000 in
theorem vclone_calls(k:Nat)(v:Value)(l:List (Int×Rat))(w:World)(hl:TL k w v l)(hn:l.length≤34359738368):
  Calls Tryz.prog 79 #[v] w fun e w'=>∃(v':Value) (ps:Ps),e= .returned v'∧LS 95 4 w.heap.size w' v' ((tsP ps).map tmv)∧lP ps=l∧(∀p∈ps,IsR w (ratv p.1) p.2 k)∧Ext w w':=by
 obtain⟨ad,m,cap,hm,rfl,hm1,hat⟩:=hl.at;have Hm:=Lib.hid hm
 have q22:∀(w:World) (a:Option Addr) (n c n' c':Nat),(binOp .eql 31 (.slice a n c) (.slice none n' c')).run Tryz.prog w= .ok (.bool a.isNone) w:=fun w a n c n' c'=>Lib.run_eql_slice_nil w _ _ a n c n' c' Tryz.underlying31
 cases ad with
 |none=>
  have h0:l=[]:=by
   match l,hat with
   | [],_=>rfl
   |x::l,hat=>
    obtain⟨g,off,h, -⟩:=hat 0 x rfl
    cases h
  subst h0
  have hm0:m=0:=hm
  subst hm0;clear hat hl hm
  go_enter Tryz.func79,Tryz.ntmps79
  go_wp2;go_ret;exact⟨_,[],rfl,LS.nil _ _ _ _,rfl,(fun p hp=>by cases hp),Ext.refl _⟩
 |some a=>
  obtain⟨g,off,sp⟩:=a
  obtain⟨ps,hps,hat2⟩:=exists_list (p:=fun i (y:TmC×Rat)=>∃x,l[i]? =some x∧y.1.c=x.1∧y.2=x.2∧IsR w (ratv y.1) y.2 k∧sp=none∧∀(j:Nat) (u:Value),(#[.int .i64 y.1.c,.bool y.1.b,.slice y.1.a1 y.1.n1 y.1.c1,.slice y.1.a2 y.1.n2 y.1.c2]:Array Value)[j]? =some u→w.cell? ⟨g,off+(i*4+j),none⟩=some u) m (fun i hi=>by
   obtain⟨x,hx⟩:∃x,l[i]? =some x:=⟨_,List.getElem?_eq_getElem (by omega)⟩;obtain⟨g',off',h1,b,a1,n1,c1,a2,n2,c2,hc⟩:=hat i x hx
   cases h1
   obtain⟨k0,k1,k2,k3,k4⟩:=hc w (Ext.refl w);refine⟨(⟨x.1,b,a1,n1,c1,a2,n2,c2⟩,x.2),x,hx,rfl,rfl,k4,rfl,fun j u hj=> ?_⟩
   match j,hj with
   |0,hj=>cases hj;exact k0
   |1,hj=>cases hj;exact k1
   |2,hj=>cases hj;exact k2
   |3,hj=>cases hj;exact k3
   |j+4,hj=>simp at hj)
  have hlP:lP ps=l:=by
   apply List.ext_getElem?
   intro i;unfold lP;rw[List.getElem?_map]
   cases hi:ps[i]? with
   |none=>
    rw[Option.map_none]
    have:=List.getElem?_eq_none_iff.1 hi
    exact(List.getElem?_eq_none (by omega)).symm
   |some y=>
    obtain⟨x,h1,h2,h3, -⟩:=hat2 i y hi;rw[Option.map_some,h1,h2,h3]
  have hR:∀p∈ps,IsR w (ratv p.1) p.2 k:=fun p hp=>by
   obtain⟨i,hi,rfl⟩:=List.mem_iff_getElem.1 hp;obtain⟨x,h1,h2,h3,h4, -⟩:=hat2 i _ (List.getElem?_eq_getElem hi);exact h4
  have hcell:∀(j:Nat) (u:Value),(flatS ((tsP ps).map tmv))[j]? =some u→w.cell? ⟨g,off+j,none⟩=some u:=by
   refine flatS_cells (n:=4) (by omega) (strN_tmv _) (p:=fun j u=>w.cell? ⟨g,off+j,none⟩=some u) fun i cs hi r u hr=> ?_
   unfold tsP at hi;rw[List.getElem?_map,List.getElem?_map]at hi
   cases hpi:ps[i]? with
   |none=>rw [hpi]at hi;cases hi
   |some y=>
    rw[hpi]at hi;simp only[Option.map_some,Option.some.injEq]at hi;unfold tmv at hi
    cases hi
    obtain⟨x, -, -, -, -, -,h5⟩:=hat2 i y hpi;exact h5 r u hr
  have hlen:(flatS ((tsP ps).map tmv)).length=m*4:=by
   rw[flatS_len (strN_tmv _).size,List.length_map];unfold tsP;rw[List.length_map,hps]
  have h1c:∀u∈flatS ((tsP ps).map tmv),u.oneCell'=true:=fun u hu=>by
   obtain⟨v,hv,hu⟩:=List.mem_flatMap.1 hu;obtain⟨cs,rfl, -,h1⟩:=strN_tmv (tsP ps) v hv;exact Array.all_eq_true'.1 h1 u (Array.mem_toList_iff.1 hu)
  have HLP:=Lib.hid hlP;have HR:=Lib.hid hR;have HC:=Lib.hid hcell;have HL:=Lib.hid hlen;have H1:=Lib.hid h1c;have HPS:=Lib.hid hps
  have Hsp:Hid (0<m→sp=none):=Lib.hid fun h0=>by
   obtain⟨y,hy⟩:∃y,ps[0]? =some y:=⟨_,List.getElem?_eq_getElem (by omega)⟩;obtain⟨x, -, -, -, -,h5, -⟩:=hat2 0 y hy;exact h5
  have hmb:m≤34359738368:=by omega
  clear hlP hR hcell hlen h1c hps hat2 hat hl hm hn;obtain⟨i0,z,hi0,hi1,hi2,hz,hz1⟩:=infoT;have HI:=Lib.hid (And.intro hi0 (And.intro hi1 (And.intro hi2 (And.intro hz hz1))));clear hi0 hi1 hi2 hz hz1
  have HC2:Hid (∀(j:Nat) (u:Value),(flatS ((tsP ps).map tmv))[j]? =some u→w.cell? ((⟨g,off,sp⟩:Addr).add j)=some u):=Lib.hid fun j u hj=>by
   have h0:0<m:=by
    have:=(List.getElem?_eq_some_iff.1 hj).1
    rw[HL.out]at this
    omega
   have:=HC.out j u hj
   rw[Hsp.out h0,Addr.add_lit];exact this
  clear HC;obtain⟨news,hnews⟩:∃news,news=flatS ((tsP ps).map tmv):=⟨_,rfl⟩;rw[←hnews]at HC2 H1 HL;have HNW:=Lib.hid hnews;clear hnews
  go_enter Tryz.func79,Tryz.ntmps79
  go_wp2_with (at_builtin;refine wpList_append_own _ rfl _ _ 31 rfl w.heap.size 95 i0 z 4 64 Tryz.underlying31 HI.out.1 HI.out.2.2.2.1 HI.out.2.1 HI.out.2.2.1 HI.out.2.2.2.2 (by omega) _ _ _ rfl (World.ownsRow_made w #[] 0 (Nat.le_refl _) (Nat.zero_le _) (by simp)) ⟨g,off,sp⟩ m cap news rfl ?qc1 ?qc2 ?qc3 ?qc4 ?qc5 ?qc6 ?_)
  case qc1=>exact HL.out
  case qc2=>
   intro j u hj;exact Lib.cell?_alloc_some _ (HC2.out j u hj)
  case qc3=>exact H1.out
  case qc4=>rw [Nat.zero_add];unfold maxLen;omega
  case qc5=>rw [Nat.zero_add];omega
  case qc6=>simp
  intro v' w1 hown hgrow hnil;go_wp2;go_ret;have hps:=HPS.out;refine⟨v',ps,rfl,⟨strN_tmv _,?_⟩,HLP.out,HR.out,?_⟩
  ·rw[←HNW.out,List.length_map];unfold tsP;rw[List.length_map,hps]
   simpa using hown
  ·exact Ext.step ((Ext.refl w).alloc _) (g:=w.heap.size) hgrow (Nat.le_refl _)
theorem insertion0_calls(ad:Option Addr)(cap:Nat)(fv:Value)(w:World):
  Calls Tryz.prog 206 #[.slice ad 0 cap,.int .i64 0,.int .i64 0,fv] w fun e w'=>e= .returned (.tuple #[])∧Ext w w':=by
 go_enter Tryz.func206,Tryz.ntmps206
 go_wp2_with fail
 go_loopw [8] (fun s8 wr=>s8= .int .i64 1∧w=wr) (fun s8 _=>0)
 case atStart=>exact ⟨rfl,rfl⟩
 case round=>
  obtain⟨rfl,rfl⟩:=hrel;go_wp2
  go_end0
  exact⟨rfl,Ext.refl _⟩
theorem stable0_calls(ad:Option Addr)(cap:Nat)(fv:Value)(w:World):
  Calls Tryz.prog 190 #[.slice ad 0 cap,.int .i64 0,fv] w fun e w'=>e= .returned (.tuple #[])∧Ext w w':=by
 go_enter Tryz.func190,Tryz.ntmps190
 go_wp2_with fail
 go_loopw [7,8] (fun s7 s8 wr=>s7= .int .i64 0∧s8= .int .i64 20∧w=wr) (fun s7 s8 _=>0)
 case atStart=>exact ⟨rfl,rfl,rfl⟩
 case round=>
  obtain⟨rfl,rfl,rfl⟩:=hrel;go_wp2_with fail;refine(insertion0_calls ad cap fv w).mono ?_;rintro ee w2 ⟨rfl,e2⟩;go_wp2_with fail
  go_loopw [6] (fun s6 wr=>s6= .int .i64 20∧w2=wr) (fun s6 _=>0)
  case atStart=>exact ⟨rfl,rfl⟩
  case round=>
   obtain⟨rfl,rfl⟩:=hrel;go_wp2
   go_end0
   exact⟨rfl,e2⟩
theorem vsort_calls(B:Nat)(v:Value)(ts:List TmC)(w:World)(h:LS 95 4 B w v (ts.map tmv))(hn:ts.length≤35184372088832):
  Calls Tryz.prog 156 #[v,.func (.func 157) #[] #[]] w fun e w'=>e= .returned (.tuple #[])∧w.grownBy w' v.ownBlock∧∃ts',ts'.Perm ts∧Ris tkey ts'∧LS 95 4 B w' v (ts'.map tmv):=by
 rcases Nat.eq_zero_or_pos ts.length with h0 |h0
 ·obtain rfl:=List.eq_nil_of_length_eq_zero h0;obtain⟨ad,cap,e1, -⟩:=h.opn;rw[List.map_nil,List.length_nil]at e1;have HH:=Lib.hid h;subst e1;clear h
  go_enter Tryz.func156,Tryz.ntmps156
  go_wp2_with fail;refine(stable0_calls ad cap _ w).mono ?_;rintro ee w2 ⟨rfl,e2⟩;go_wp2
  go_end0
  refine⟨rfl,?_,[],List.Perm.refl _,.nil,HH.out.ext e2⟩
  cases ad with
  |none=>exact e2
  |some a=>exact e2.chg a.block
 ·obtain⟨g,cap,rest,e1,hB,e2,e3,e4,hb⟩:=h.hold (by rw[List.length_map];exact h0);rw[List.length_map]at e1 e2 e4;subst e1;refine(sortT_calls ts.length cap g rest ts w rfl hn ⟨strN_tmv _,hb⟩).mono ?_;rintro ee w2 ⟨rfl,hc,ts',hp,hs,hH⟩;refine⟨rfl,hc,ts',hp,hs,?_⟩
  have:=LS.of_hold (e:=95) (n:=4) (B:=B) (w:=w2) (vs:=ts'.map tmv) (g:=g) (cap:=cap) (rest:=rest) hH.1 hB (by rw[List.length_map,hp.length_eq];exact e2) e3 (by rw[List.length_map,hp.length_eq];exact e4) hH.2
  rw[List.length_map,hp.length_eq]at this;exact this
theorem isz_calls(t:TmC)(q:Rat)(k:Nat)(w:World)(h:IsR w (ratv t) q k):Calls Tryz.prog 159 #[.agg #[.int .i64 t.c,.bool t.b,.slice t.a1 t.n1 t.c1,.slice t.a2 t.n2 t.c2]] w fun e w'=>e= .returned (.bool (decide (q=0)))∧Ext w w':=by
 have hz:(q.num.sign==0)=decide (q=0):=by
  by_cases hq:q=0
  ·subst hq;rfl
  ·have:q.num≠0:=fun h=>hq (Rat.num_eq_zero.1 h)
   rw[decide_eq_false hq]
   simp[Int.sign_eq_zero_iff_zero,this]
 obtain⟨c,b,a1,n1,c1,a2,n2,c2⟩:=t;have HH:=Lib.hid h;have HZ:=Lib.hid hz;unfold ratv at HH
 simp only at HH ⊢
 clear h hz;obtain⟨w1,hw1,e1,b1,s1⟩:=alloc1 w #[.int .i64 c,.bool b,.slice a1 n1 c1,.slice a2 n2 c2] 95;obtain⟨s,hs⟩:∃s,s=q.num.sign:=⟨_,rfl⟩;rw[←hs]at HZ;have HS:=Lib.hid hs.symm;clear hs
 go_enter Tryz.func159,Tryz.ntmps159
 have hc1:=b1.cell 1;have hc2:=b1.cell 2;have hc3:=b1.cell 3;go_wp2_with fail;rw[←hw1];clear hw1;refine(rsign_calls _ q k _ (HH.out.ext e1)).mono ?_;rw[HS.out];rintro ee w2 ⟨rfl,e2⟩;go_wp2;go_ret;exact⟨by rw[←HZ.out];rfl,e1.trans e2⟩
def firstZ(m:List (Int×Rat))(r:Int):Prop:=(r= -1∧∀x∈m,x.2≠0)∨∃i:Nat,r=(i:Int)∧(∃x,m[i]? =some x∧x.2=0)∧∀x∈m.take i,x.2≠0
set_option maxHeartbeats 4000000 in
theorem vindex_calls(B k:Nat)(v:Value)(m:List (Int×Rat))(w:World)(h:TO B k w v m)(hk:k≤LIM):
  Calls Tryz.prog 153 #[v,.func (.func 159) #[] #[]] w fun e w'=>∃r,e= .returned (.int .i64 r)∧firstZ m r∧Ext w w':=by
 obtain⟨ad,n,cap,hn,rfl,hn1,hat⟩:=(h.tl hk).at;have Hn:=Lib.hid hn;have Hat:=Lib.hid hat;clear hn hat h
 go_enter Tryz.func153,Tryz.ntmps153
 go_wp2_with fail
 go_loopw [8] (fun s8 wr=>∃i:Nat,i≤n∧s8= .int .i64 (i:Int)∧Hid (∀x∈m.take i,x.2≠0)∧Ext w wr) (fun s8 _=>((n:Int) - intOf s8).toNat)
 case atStart=>exact ⟨0,Nat.zero_le _,rfl,Lib.hid (by simp),Ext.refl _⟩
 case round=>
  obtain⟨i,hi,rfl,hH,hex⟩:=hrel
  rcases Nat.eq_or_lt_of_le hi with hin |hin
  ·subst hin
   have hlt:¬((i:Int)<(i:Int)):=by omega
   have HF:Hid (∀x∈m,x.2≠0):=by
    have:=hH.out
    rw[Hn.out,List.take_length]at this;exact Lib.hid this
   clear hH;go_wp2;go_ret;exact⟨-1,rfl,.inl ⟨rfl,HF.out⟩,hex⟩
  ·have hlt:(i:Int)<(n:Int):=by omega
   obtain⟨x,hx⟩:∃x,m[i]? =some x:=⟨_,List.getElem?_eq_getElem (by rw[←Hn.out];exact hin)⟩;obtain⟨g,off,rfl,b,a1,n1,c1,a2,n2,c2,hcell⟩:=Hat.out i x hx;obtain⟨hc0,hc1,hc2,hc3,hIsR⟩:=hcell wr hex;have HX:=Lib.hid hx;have HR:=Lib.hid hIsR;obtain⟨xc,xq⟩:=x
   simp only at hc0 hc1 hc2 hc3
   obtain⟨r,hr⟩:∃r:Bool,r=decide (xq=0):=⟨_,rfl⟩;have Hr:=Lib.hid hr.symm;clear hr hx hIsR hcell;go_wp2_with fail;refine(isz_calls ⟨xc,b,a1,n1,c1,a2,n2,c2⟩ xq k wr HR.out).mono ?_;rw[Hr.out];rintro ee w2 ⟨rfl,e2⟩
   cases r with
   |true=>
    have HF:Hid (firstZ m (i:Int)):=Lib.hid (.inr ⟨i,rfl,⟨_,HX.out,of_decide_eq_true Hr.out⟩,hH.out⟩);clear hH;go_wp2;go_ret;exact⟨_,rfl,HF.out,hex.trans e2⟩
   |false=>
    have HF:Hid (∀x∈m.take (i+1),x.2≠0):=Lib.hid fun x hx=>by
     rw[List.take_add_one,HX.out]at hx
     rcases List.mem_append.1 hx with hx |hx
     ·exact hH.out x hx
     ·simp only[Option.toList_some,List.mem_singleton]at hx;subst hx;exact of_decide_eq_false Hr.out
    clear hH;go_wp2;go_roundw
    case rel=>exact ⟨i+1,by omega,congrArg (Value.int .i64) (by omega),HF,hex.trans e2⟩
    case measure=>simp [intOf];omega
theorem run_clear_structs{P:Program}(w:World)(t e ty:TypeId)(z:Value)(ht:P.underlying t=some (.slice e))(hv:∀w,(zeroValue e).run P w= .ok z w)(h1:∀u∈z.cells.toList,u.oneCell'=true)(g o n c:Nat)(cur:List Value)(hg:w.heap[g]? =some (.cells cur.toArray e (0,0)))(hfit:o+n*z.cells.size≤cur.length)(hn:0<n)(hz0:0<z.cells.size):
  (Builtin.clear_ #[t] ty #[.slice (some ⟨g,o,none⟩) n c]).run P w= .ok (.tuple #[]) (w.setRow g (laidS cur o (Builtin.zeroCells z.cells n).toList).toArray):=by
 have hsz:(Builtin.zeroCells z.cells n).toList.length=n*z.cells.size:=by simp[Builtin.zeroCells]
 have h1':∀u∈(Builtin.zeroCells z.cells n).toList,u.oneCell'=true:=fun u hu=>by
  simp only[Builtin.zeroCells,Array.toList_map,List.mem_map]at hu;obtain⟨i, -,rfl⟩:=hu;have hlt:=Nat.mod_lt i hz0;rw[getElem!_pos z.cells (i % z.cells.size) hlt];exact h1 _ (Array.getElem_mem_toList hlt)
 have hst:=run_storeCells_at P g o e (Builtin.zeroCells z.cells n).toList 0 cur.toArray w hg (by rw[hsz];simpa using hfit) h1';simp only[Nat.add_zero]at hst;obtain⟨m,rfl⟩:∃m,n=m+1:=⟨n - 1,by omega⟩
 simp[Builtin.clear_,run_underlying ht,hv,hst,laidS]
theorem set4(a b c d:Value):∀(p:Nat) (l:List Value),p+4≤l.length→(((l.set p a).set (p+1) b).set (p+2) c).set (p+3) d=laidS l p [a,b,c,d]
 |0,x1::x2::x3::x4::l,_=>rfl
 |p+1,x::l,h=>by
  have:=set4 a b c d p l (by simpa using h)
  unfold laidS at this ⊢;rw[show p+1+1=(p+1)+1 from rfl,show p+1+2=(p+2)+1 by omega,show p+1+3=(p+3)+1 by omega,List.set_cons_succ,List.set_cons_succ,List.set_cons_succ,List.set_cons_succ,this]
  simp[show p+1+4=(p+4)+1 by omega]
theorem HoldT.store{g:Nat}{rest:List Value}{w:World}{l:List TmC}(h:HoldT g rest w l){i:Nat}(hi:i<l.length)(t:TmC):
  HoldT g rest ((((w.setCell ⟨g,i*4,none⟩ (.int .i64 t.c)).setCell ⟨g,i*4+1,none⟩ (.bool t.b)).setCell ⟨g,i*4+2,none⟩ (.slice t.a1 t.n1 t.c1)).setCell ⟨g,i*4+3,none⟩ (.slice t.a2 t.n2 t.c2)) (l.set i t):=by
 have hb:=((((h.2.set (i*4) (.int .i64 t.c)).set (i*4+1) (.bool t.b)).set (i*4+2) (.slice t.a1 t.n1 t.c1)).set (i*4+3) (.slice t.a2 t.n2 t.c2));have hlen:=flatS_len h.1.size;rw[List.length_map]at hlen;simp only[List.setIfInBounds_toArray]at hb;rw[set4 _ _ _ _ _ _ (by rw[List.length_append,hlen];omega)]at hb;have h2:=laidS_flat (rest:=rest) (v:=tmv t) h.1.size (by rw[List.length_map];exact hi) rfl
 have h3:(tmv t).cells.toList=[.int .i64 t.c,.bool t.b,.slice t.a1 t.n1 t.c1,.slice t.a2 t.n2 t.c2]:=rfl
 rw[h3]at h2;rw[h2,←List.map_set]at hb;exact⟨strN_tmv _,hb⟩
theorem lP_get{ps:Ps}{i:Nat}{p:TmC×Rat}(h:ps[i]? =some p):(lP ps)[i]? =some (p.1.c,p.2):=by
 unfold lP;rw[List.getElem?_map,h]
 rfl
theorem TO.ps{B k:Nat}{w:World}{v:Value}{m:List (Int×Rat)}(h:TO B k w v m):∃ps:Ps,lP ps=m∧LS 95 4 B w v ((tsP ps).map tmv)∧∀p∈ps,FrQ B w (ratv p.1) p.2∧szQ p.2≤k:=by
 obtain⟨ts,h1,h2,h3⟩:=h
 have hl:(ts.zip (m.map Prod.snd)).length=m.length:=by rw[List.length_zip,List.length_map,h1];omega
 have hget:∀(i:Nat) (p:TmC×Rat),(ts.zip (m.map Prod.snd))[i]? =some p→∃x:Int×Rat,m[i]? =some x∧ts[i]? =some p.1∧p.2=x.2:=fun i p hp=>by
  have hi:=(List.getElem?_eq_some_iff.1 hp).1;obtain⟨x,hx⟩:∃x,m[i]? =some x:=⟨_,List.getElem?_eq_getElem (by omega)⟩;rw[List.getElem?_zip_eq_some,List.getElem?_map,hx]at hp;exact⟨x,hx,hp.1,by simpa using hp.2.symm⟩
 have hts:tsP (ts.zip (m.map Prod.snd))=ts:=by
  unfold tsP;rw[List.map_fst_zip (by rw[List.length_map];omega)]
 refine⟨ts.zip (m.map Prod.snd),?_,by rw[hts];exact h2,fun p hp=> ?_⟩
 ·apply List.ext_getElem?
  intro i;unfold lP;rw[List.getElem?_map]
  cases hi:(ts.zip (m.map Prod.snd))[i]? with
  |none=>
   have:=List.getElem?_eq_none_iff.1 hi
   rw[Option.map_none,List.getElem?_eq_none (by omega)]
  |some p=>
   obtain⟨x,k1,k2,k3⟩:=hget i p hi;rw[Option.map_some,k1,(h3 i p.1 x k2 k1).1,k3]
 ·obtain⟨i,hi,rfl⟩:=List.mem_iff_getElem.1 hp;obtain⟨x,k1,k2,k3⟩:=hget i _ (List.getElem?_eq_getElem hi);rw[k3];exact(h3 i _ x k2 k1).2
theorem TO.of_ps{B k:Nat}{w:World}{v:Value}{ps:Ps}(h1:LS 95 4 B w v ((tsP ps).map tmv))(h2:∀p∈ps,FrQ B w (ratv p.1) p.2∧szQ p.2≤k):TO B k w v (lP ps):=by
 refine⟨tsP ps,by unfold tsP lP;rw[List.length_map,List.length_map],h1,fun i t x ht hx=> ?_⟩;unfold tsP at ht;rw[List.getElem?_map]at ht
 cases hi:ps[i]? with
 |none=>rw [hi]at ht;cases ht
 |some p=>
  rw[hi]at ht;rw[lP_get hi]at hx;simp only[Option.map_some,Option.some.injEq]at ht hx;subst ht hx;exact⟨rfl,h2 p (List.mem_of_getElem? hi)⟩
def nzP(ps:Ps):Ps:=ps.filter fun p=> !decide (p.2=0)
theorem lP_nzP(ps:Ps):lP (nzP ps)=nz (lP ps):=by
 unfold lP nzP nz;rw[List.filter_map]
 rfl
theorem nzP_snoc(ps:Ps)(p:TmC×Rat):nzP (ps++ [p])=if p.2=0 then nzP ps else nzP ps++ [p]:=by
 unfold nzP;rw[List.filter_append]
 by_cases h:p.2=0<;>simp [h]
theorem nzP_all{ps:Ps}(h:∀p∈ps,p.2≠0):nzP ps=ps:=by
 unfold nzP;rw[List.filter_eq_self];intro p hp
 simp[h p hp]
set_option maxHeartbeats 8000000 in
theorem vdel_calls(B k:Nat)(v:Value)(m:List (Int×Rat))(w:World)(h:TO B k w v m)(hk:k≤LIM)(hn:m.length≤34359738368):
  Calls Tryz.prog 78 #[v,.func (.func 159) #[] #[]] w fun e w'=>∃v',e= .returned v'∧TO B k w' v' (nz m)∧w.grownBy w' v.ownBlock:=by
 obtain⟨ps,hps,hls,hfr⟩:=h.ps;obtain⟨ad,cap,e1, -, -, -⟩:=hls.opn
 have hml:((tsP ps).map tmv).length=m.length:=by rw[←hps];unfold tsP lP;simp
 rw[hml]at e1;subst e1;have Hh:=Lib.hid h;have HL:=Lib.hid hls;have HP:=Lib.hid hps;have HF:=Lib.hid hfr;have HML:=Lib.hid hml;obtain⟨n,hnn⟩:∃n,n=m.length:=⟨_,rfl⟩;rw[←hnn]at hn HL Hh ⊢;have HN:=Lib.hid hnn;clear h hps hls hfr hml hnn
 go_enter Tryz.func78,Tryz.ntmps78
 go_wp2_with fail;refine(vindex_calls B k _ m w Hh.out hk).mono ?_;rintro ee w2 ⟨r,rfl,hr,e2⟩
 rcases hr with⟨rfl,hall⟩ |⟨i0,rfl,⟨x,hx,hx0⟩,hbef⟩
 ·have HA:Hid (nz m=m):=Lib.hid (by unfold nz;rw[List.filter_eq_self];intro x hx;simp[hall x hx])
  clear hall;go_wp2;go_ret;refine⟨_,rfl,by rw[HA.out];exact Hh.out.ext e2,?_⟩
  cases ad with
  |none=>exact e2
  |some a=>exact e2.chg a.block
 ·have hpl:(tsP ps).length=n:=by have:=HML.out;rw[List.length_map]at this;rw[this,HN.out]
  have hpl2:ps.length=n:=by unfold tsP at hpl;rw[List.length_map]at hpl;exact hpl
  have hi0:i0<n:=by have:=(List.getElem?_eq_some_iff.1 hx).1;rw[HN.out];exact this
  obtain⟨g,cap',rest,f1,f2,f3,f4,f5,f6⟩:=HL.out.hold (by rw[List.length_map,hpl];omega);rw[List.length_map,hpl]at f1 f3 f5
  cases f1
  obtain⟨p0,hp0⟩:∃p0,ps[i0]? =some p0:=⟨_,List.getElem?_eq_getElem (by omega)⟩
  have hp00:p0.2=0:=by
   have:=lP_get hp0
   rw[HP.out,hx]at this;simp only[Option.some.injEq]at this;rw[this]at hx0;exact hx0
  have hnz0:nzP (ps.take i0)=ps.take i0:=nzP_all fun p hp=>by
   refine hbef (p.1.c,p.2) ?_;rw[←HP.out];unfold lP;rw[←List.map_take];exact List.mem_map.2 ⟨p,hp,rfl⟩
  have HST:Hid ((tsP ps).length=n∧HoldT g rest w2 (tsP ps)∧(tsP ps).take i0=tsP (nzP (ps.take (i0+1)))∧i0=(nzP (ps.take (i0+1))).length∧(tsP ps).drop (i0+1)=(tsP ps).drop (i0+1)):=by
   have e:nzP (ps.take (i0+1))=ps.take i0:=by
    rw[List.take_add_one,hp0]
    show nzP (ps.take i0++ [p0])=_
    rw[nzP_snoc,if_pos hp00,hnz0]
   exact Lib.hid ⟨hpl,⟨strN_tmv _,f6.ext e2⟩,by rw[e];unfold tsP;rw[List.map_take],by rw[e,List.length_take];omega,rfl⟩
  have HB0:=Lib.hid f6;have HPL:=Lib.hid hpl2;have HG:=Lib.hid (And.intro f2 (And.intro f3 (And.intro f4 f5)));have hC2:Chg g w w2:=e2.chg g;have hncap:n≤cap:=f3;have hcapm:cap≤9223372036854775807:=f4;clear hx hx0 hbef hpl hpl2 f2 f3 f4 f5 f6 hp0 hp00 hnz0;obtain⟨j0,hj0⟩:∃j0,j0=i0+1:=⟨_,rfl⟩;rw[←hj0]at HST
  have hj0':(i0:Int)+1=(j0:Int):=by omega
  have hij0:i0<j0:=by omega
  have hjn0:j0≤n:=by omega
  have hi1:¬(i0:Int)= -1:=by omega
  clear hj0
  have hbi:((i0:Int)== -1)=false:=by simp
  go_wp2_with fail
  (try rw[hbi])
  clear hi1 hbi
  go_loopw [5,6] (fun s5 s6 wr=>∃(i j:Nat),s5= .int .i64 (i:Int)∧s6= .int .i64 (j:Int)∧i<j∧j≤n∧Hid (∃us:List TmC,us.length=n∧HoldT g rest wr us∧us.take i=tsP (nzP (ps.take j))∧i=(nzP (ps.take j)).length∧us.drop j=(tsP ps).drop j)∧Chg g w wr) (fun s5 s6 _=>((n:Int) - intOf s6).toNat)
  case atStart=>exact ⟨i0,j0,rfl,rfl,hij0,hjn0,Lib.hid (let ⟨a,b,c,d,_⟩:=HST.out;⟨_,a,b,c,d,rfl⟩),hC2⟩
  case round=>
   obtain⟨i,j,rfl,rfl,hij,hjn,hH,hch⟩:=hrel
   obtain⟨us,hH⟩:∃us:List TmC,Hid (us.length=n∧HoldT g rest wr us∧us.take i=tsP (nzP (ps.take j))∧i=(nzP (ps.take j)).length∧us.drop j=(tsP ps).drop j):=by
    obtain⟨us,h⟩:=hH.out;exact⟨us,Lib.hid h⟩
   clear hC2 HST hj0' hij0 hjn0
   rcases Nat.eq_or_lt_of_le hjn with hje |hlt
   ·subst hje
    have hlt':¬(j:Int)<(j:Int):=by omega
    have hzv:∀w,(zeroValue 95).run Tryz.prog w= .ok (.agg #[.int .i64 0,.bool false,.slice none 0 0,.slice none 0 0]) w:=fun w=>by kernel_rfl
    have hmul:i*4+(j - i)*4=j*4:=by omega
    have hcl:=fun ty=>run_clear_structs (P:=Tryz.prog) wr 31 95 ty _ Tryz.underlying31 hzv (fun u hu=>by
     simp only[Value.cells,List.mem_cons,List.not_mem_nil,or_false]at hu
     rcases hu with rfl |rfl |rfl |rfl<;>rfl) g (i*4) (j - i) (cap - i) _ hH.out.2.1.2 (by
      rw[List.length_append,flatS_len hH.out.2.1.1.size,List.length_map,hH.out.1]
      show i*4+(j - i)*4≤_
      omega) (by omega) (by decide)
    obtain⟨zs,hzs⟩:∃zs,zs=(Builtin.zeroCells (Value.agg #[.int .i64 0,.bool false,.slice none 0 0,.slice none 0 0]).cells (j - i)).toList:=⟨_,rfl⟩;rw[←hzs]at hcl
    have hzl:zs.length=(j - i)*4:=by rw[hzs];simp[Builtin.zeroCells,Value.cells]
    obtain⟨w7,hw7⟩:∃w7,w7=wr.setRow g (laidS (flatS (us.map tmv)++rest) (i*4) zs).toArray:=⟨_,rfl⟩;rw[←hw7]at hcl
    have hB7:Bx 95 w7 g (laidS (flatS (us.map tmv)++rest) (i*4) zs).toArray:=by rw[hw7];exact hH.out.2.1.2.setRow _
    have hC7:Chg g wr w7:=by rw[hw7];exact Chg.setRow _ _ _
    have hlay:laidS (flatS (us.map tmv)++rest) (i*4) zs=flatS ((us.take i).map tmv)++(zs++rest):=by
     have hl:=flatS_len hH.out.2.1.1.size;rw[List.length_map,hH.out.1]at hl;unfold laidS;rw[List.take_append_of_le_length (by omega),flatS_take hH.out.2.1.1.size,List.map_take,hzl,hmul,←hl,List.drop_left,List.append_assoc]
    have HF7:Hid (TO B k w7 (.slice (some ⟨g,0,none⟩) i cap) (nz m)∧Chg g w w7):=by
     obtain⟨h1,h2,h3,h4,h5⟩:=hH.out;obtain⟨g1,g2,g3,g4⟩:=HG.out;rw[hlay]at hB7
     have hti:(us.take i).length=i:=by rw[List.length_take];omega
     have hCC:=hch.trans hC7;have hB0:=HB0.out
     have htall:ps.take j=ps:=by rw[List.take_of_length_le];have:=HPL.out;omega
     rw[htall]at h3 h4
     have hLS:=LS.of_hold (e:=95) (n:=4) (B:=B) (w:=w7) (vs:=(us.take i).map tmv) (g:=g) (cap:=cap) (rest:=zs++rest) (strN_tmv _) g1 (by rw[List.length_map,hti];omega) g3 (by
      rw[List.length_map,hti,List.length_append,hzl]
      have g4':j*4+rest.length=cap*4:=g4
      omega) hB7
     rw[List.length_map,hti,h3]at hLS;have hTO:=TO.of_ps (k:=k) hLS (fun p hp=>(let ⟨f1,f2⟩:=HF.out p (List.mem_filter.1 hp).1;⟨f1.chgN hCC hB0 hB7 (by decide) (by decide),f2⟩));rw[lP_nzP,HP.out]at hTO;exact Lib.hid ⟨hTO,hCC⟩
    have hji:j - i>0:=by omega
    have hile:i≤j:=by omega
    have hicap:i≤cap:=by omega
    clear hH hB7 hC7 hlay hzl hzs hzv hmul hw7;go_wp2;go_ret;exact⟨_,rfl,HF7.out.1,HF7.out.2⟩
   ·have hlt':(j:Int)<(n:Int):=by omega
    have hin':(i:Int)<(n:Int):=by omega
    obtain⟨p,hp⟩:∃p,ps[j]? =some p:=⟨_,List.getElem?_eq_getElem (by rw[HPL.out];exact hlt)⟩
    have hus:us[j]? =some p.1:=by
     obtain⟨h1,h2,h3,h4,h5⟩:=hH.out
     have k1:us[j]? =(us.drop j)[0]? :=by rw[List.getElem?_drop,Nat.add_zero]
     rw[k1,h5,List.getElem?_drop,Nat.add_zero];unfold tsP;rw[List.getElem?_map,hp]
     rfl
    obtain⟨old,hold⟩:∃old,us[i]? =some old:=⟨_,List.getElem?_eq_getElem (by rw[hH.out.1];omega)⟩;have hcj:=hH.out.2.1.at hus wr (Ext.refl wr)
    have hc0:wr.cell? ⟨g,j*4,none⟩=some (.int .i64 p.1.c):=hcj 0 _ rfl
    have hc1:=hcj 1 _ rfl;have hc2:=hcj 2 _ rfl;have hc3:=hcj 3 _ rfl;have hFr:FrQ B wr (ratv p.1) p.2:=(HF.out p (List.mem_of_getElem? hp)).1.chgN hch HB0.out hH.out.2.1.2 (by decide) (by decide);have hIs:=hFr.isR (HF.out p (List.mem_of_getElem? hp)).2 hk;have HIS:=Lib.hid hIs
    have htk:ps.take (j+1)=ps.take j++ [p]:=by rw[List.take_add_one,hp];rfl
    have HTK:=Lib.hid htk;have HUS:=Lib.hid (And.intro hus hold);obtain⟨r,hr⟩:∃r:Bool,r=decide (p.2=0):=⟨_,rfl⟩;have Hr:=Lib.hid hr.symm;obtain⟨t,q⟩:=p
    simp only at hc0 hc1 hc2 hc3 HIS HTK HUS Hr
    obtain⟨w5,hw5,e5,b5,s5⟩:=alloc1 wr #[.int .i64 t.c,.bool t.b,.slice t.a1 t.n1 t.c1,.slice t.a2 t.n2 t.c2] 95;clear hp hus hold hcj hFr hIs htk hr;go_wp2_with fail;rw[←hw5];refine(isz_calls t q k w5 (HIS.out.ext e5)).mono ?_;rw[Hr.out];rintro ee w6 ⟨rfl,e6⟩;have E6:=e5.trans e6;have b6:=b5.ext e6;have hd0:=b6.cell 0;have hd1:=b6.cell 1;have hd2:=b6.cell 2;have hd3:=b6.cell 3;obtain⟨j1,hj1⟩:∃j1,j1=j+1:=⟨_,rfl⟩
    have hj1':(j:Int)+1=(j1:Int):=by omega
    rw[←hj1]at HTK;have HJ1:=Lib.hid hj1;have H6:=Lib.hid (hH.out.2.1.ext E6);clear hj1 hc0 hc1 hc2 hc3 hw5 b5
    cases r with
    |true=>
     go_wp2;go_roundw
     case rel=>
      obtain⟨h1,h2,h3,h4,h5⟩:=hH.out
      have hq:q=0:=of_decide_eq_true Hr.out
      have e:nzP (ps.take j1)=nzP (ps.take j):=by rw[HTK.out,nzP_snoc,if_pos hq]
      have hj:=HJ1.out;refine⟨i,j1,rfl,rfl,by omega,by omega,Lib.hid ⟨us,h1,H6.out,by rw[e];exact h3,by rw[e];exact h4,?_⟩,hch.trans (E6.chg g)⟩;rw[hj,←List.drop_drop,h5,List.drop_drop]
     case measure=>have:=HJ1.out;simp[intOf];omega
    |false=>
     have hci:=H6.out.at HUS.out.2 w6 (Ext.refl w6)
     have hc0:w6.cell? ⟨g,i*4,none⟩=some (.int .i64 old.c):=hci 0 _ rfl
     have hc1:=hci 1 _ rfl;have hc2:=hci 2 _ rfl;have hc3:=hci 3 _ rfl;have hf0:=H6.out.2.free (i*4);have hf1:=H6.out.2.free (i*4+1);have hf2:=H6.out.2.free (i*4+2);have hf3:=H6.out.2.free (i*4+3);obtain⟨i1,hi1⟩:∃i1,i1=i+1:=⟨_,rfl⟩
     have hi1':(i:Int)+1=(i1:Int):=by omega
     have HI1:=Lib.hid hi1;clear hi1 hci;go_wp2;go_roundw
     case rel=>
      obtain⟨h1,h2,h3,h4,h5⟩:=hH.out;have hq:q≠0:=of_decide_eq_false Hr.out
      have e:nzP (ps.take j1)=nzP (ps.take j)++ [(t,q)]:=by rw[HTK.out,nzP_snoc,if_neg hq]
      have hj:=HJ1.out;have hi:=HI1.out;refine⟨i1,j1,rfl,rfl,by omega,by omega,Lib.hid ⟨us.set i t,by rw[List.length_set];exact h1,H6.out.store (by rw[h1];omega) t,?_,by rw[e,List.length_append,←h4];exact hi,?_⟩,(hch.trans (E6.chg g)).trans (Chg.trans (Chg.trans (Chg.trans (Chg.setCell _ g (i*4) _) (Chg.setCell _ g (i*4+1) _)) (Chg.setCell _ g (i*4+2) _)) (Chg.setCell _ g (i*4+3) _))⟩
      ·rw[e]
       have e2:tsP (nzP (ps.take j)++ [(t,q)])=tsP (nzP (ps.take j))++ [t]:=by unfold tsP;simp
       rw[e2,←h3,hi,List.take_add_one,List.take_set_of_le (Nat.le_refl _),List.getElem?_set_self (by omega)]
       rfl
      ·rw[List.drop_set_of_lt (by omega),hj,←List.drop_drop,h5,List.drop_drop]
     case measure=>have:=HJ1.out;simp[intOf];omega
theorem TO.le{B k k':Nat}{w:World}{v:Value}{m:List (Int×Rat)}(h:TO B k w v m)(hk:k≤k'):TO B k' w v m:=by
 obtain⟨ts,h1,h2,h3⟩:=h;exact⟨ts,h1,h2,fun i t x h4 h5=>(let ⟨a,b,c⟩:=h3 i t x h4 h5;⟨a,b,by omega⟩)⟩
theorem LS.tl{B k:Nat}{w:World}{v:Value}{ps:Ps}(h2:LS 95 4 B w v ((tsP ps).map tmv))(hR:∀p∈ps,IsR w (ratv p.1) p.2 k):TL k w v (lP ps):=by
 obtain⟨ad,cap,e1,e2,e3, -⟩:=h2.opn
 have hl:((tsP ps).map tmv).length=(lP ps).length:=by unfold tsP lP;simp
 rw[hl]at e1 e2;refine⟨ad,cap,e1,e2,e3,?_⟩
 rcases Nat.eq_zero_or_pos (lP ps).length with h0 |h0
 ·exact .inl (List.eq_nil_of_length_eq_zero h0)
 ·obtain⟨g,cap',rest,f1,f2, -⟩:=h2.hold (by omega);rw[e1]at f1;simp only[Value.slice.injEq]at f1;obtain⟨f1, -, -⟩:=f1;refine .inr ⟨g,0,f1,fun i x hi=> ?_⟩;obtain⟨p,hp⟩:∃p,ps[i]? =some p:=⟨_,List.getElem?_eq_getElem (by have:=(List.getElem?_eq_some_iff.1 hi).1;unfold lP at this;simpa using this)⟩;rw[lP_get hp]at hi;simp only[Option.some.injEq]at hi;subst hi;obtain⟨g',cap2,j1,j2,cs,j3,j4,j5,j6⟩:=h2.at (by omega) (i:=i) (u:=tmv p.1) (by unfold tsP;rw[List.getElem?_map,List.getElem?_map,hp];rfl);rw[e1]at j1;simp only[Value.slice.injEq,f1,Option.some.injEq,Addr.mk.injEq]at j1;obtain⟨⟨rfl, -⟩, -⟩:=j1;refine⟨cs,j4,fun j u hj=> ?_,?_⟩
  ·rw[Nat.zero_add];exact(j6 w (Ext.refl w) j u hj).1
  ·unfold tmv at j3
   cases j3
   exact⟨_,_,_,_,_,_,_,rfl,hR p (List.mem_of_getElem? hp)⟩
theorem FrL.chgB{e:TypeId}{k:IntKind}{B0:Nat}{w w':World}{v:Value}{xs:List Nat}{g:Nat}{t:TypeId}{cs:Array Value}(h:FrL e k B0 w v xs)(hc:Chg g w w')(hb:Bx t w g cs)(ht:t≠e):FrL e k B0 w' v xs:=by
 obtain⟨ad,cap,h1,h2,h3,h4⟩:=h;refine⟨ad,cap,h1,h2,h3,?_⟩
 rcases h4 with h4 |⟨g',cur,h4,h5,h6,h7⟩
 ·exact .inl h4
 ·refine .inr ⟨g',cur,h4,h5,hc.blk h6 ?_,h7⟩;rintro rfl;unfold Bx at hb;rw[h6]at hb;simp only[Option.some.injEq,Obj.cells.injEq]at hb;exact ht hb.2.1.symm
theorem FrQ.chgB{B0:Nat}{w w':World}{v:Value}{q:Rat}{g:Nat}{t:TypeId}{cs:Array Value}(h:FrQ B0 w v q)(hc:Chg g w w')(hb:Bx t w g cs)(ht:t≠173):FrQ B0 w' v q:=by
 obtain⟨s,t,hst,hs,ht'⟩:=h;exact⟨s,t,hst,FrL.chgB hs hc hb ht,FrL.chgB ht' hc hb ht⟩
def PP.frTm{S:Nat}(c:Int)(q:Rat):PP S:=⟨false,fun u w=>∃t:TmC,u=tmv t∧t.c=c∧FrQ S w (ratv t) q,fun _ _ _ h hp=>(let ⟨t,h1,h2,h3⟩:=hp;⟨t,h1,h2,h3.ext h⟩),fun _ _ hg _ _ _ h hp=>(let ⟨t,h1,h2,h3⟩:=hp;⟨t,h1,h2,h3.chg h hg⟩)⟩
def PP.oneT{S:Nat}(c:Int)(q:Rat):PP S:=⟨false,fun u w=>∃(g:Nat) (t:TmC),S≤g∧u= .slice (some ⟨g,0,none⟩) 1 1∧Bx 95 w g (tmv t).cells∧t.c=c∧FrQ S w (ratv t) q,fun _ _ _ h hp=>(let ⟨g,t,h0,h1,h2,h3,h4⟩:=hp;⟨g,t,h0,h1,h2.ext h,h3,h4.ext h⟩),fun _ _ hg _ _ _ h hp=>(let ⟨g,t,h0,h1,h2,h3,h4⟩:=hp;⟨g,t,h0,h1,h2.chg h (by omega),h3,h4.chg h hg⟩)⟩
def ApT(B S n:Nat)(c:Int)(q:Rat)(ts:List TmC)(hv v:Value)(b:World):Prop:=
 ∃(t:TmC) (g cap:Nat),v= .slice (some ⟨g,0,none⟩) (n+1) cap∧LS 95 4 B b v ((ts++ [t]).map tmv)∧t.c=c∧FrQ S b (ratv t) q∧(hv.ownBlock=some g∨S≤g)
theorem ApT.ext{B S n:Nat}{c:Int}{q:Rat}{ts:List TmC}{hv v:Value}{a b:World}(h:ApT B S n c q ts hv v a)(he:Ext a b):ApT B S n c q ts hv v b:=by
 obtain⟨t,g,cap,h1,h2,h3,h4,h5⟩:=h;exact⟨t,g,cap,h1,h2.ext he,h3,h4.ext he,h5⟩
theorem ap_fin{B S S0 n:Nat}{c:Int}{q:Rat}{ts:List TmC}{t:TmC}{hv v':Value}{w':World}(hn:ts.length=n)(h1:w'.ownsRow B 95 4 v' (n+1) (flatS (ts.map tmv)++ [.int .i64 t.c,.bool t.b,.slice t.a1 t.n1 t.c1,.slice t.a2 t.n2 t.c2]))(h3:∀g,v'.ownBlock=some g→hv.ownBlock=some g∨S0≤g)(hS:S≤S0)(ht:t.c=c)(hq:FrQ S w' (ratv t) q):ApT B S n c q ts hv v' w':=by
 have hLS:LS 95 4 B w' v' ((ts++ [t]).map tmv):=by
  refine⟨strN_tmv _,?_⟩
  have e:flatS ((ts++ [t]).map tmv)=flatS (ts.map tmv)++ [.int .i64 t.c,.bool t.b,.slice t.a1 t.n1 t.c1,.slice t.a2 t.n2 t.c2]:=by
   rw[List.map_append,flatS_append]
   rfl
  rw[e,List.length_map,List.length_append,hn];exact h1
 obtain⟨g,cap,rest,e1, -⟩:=hLS.hold (by rw[List.length_map,List.length_append];show 0<_+1;omega);rw[List.length_map,List.length_append,hn]at e1;refine⟨t,g,cap,e1,hLS,ht,hq,?_⟩
 rcases h3 g (by rw[e1];rfl)with h |h
 ·exact .inl h
 ·exact .inr (by omega)
theorem gT_spec{B n tb:Nat}{w w3:World}{ad:Option Addr}{cap:Nat}{vs:List Value}{cs:Array Value}(hown:LS 95 4 B w (.slice ad n cap) vs)(hE:Ext w w3)(hb:Bx 95 w3 tb cs):
  ∃gA,(∃cs,Bx 95 w3 gA cs)∧(∀wa wb:World,wa.grownBy wb (Value.slice ad n cap).ownBlock→Chg gA wa wb)∧(((Value.slice ad n cap).ownBlock=some gA∧B≤gA)∨((Value.slice ad n cap).ownBlock=none∧gA=tb)):=by
 rcases hown.2.2 with⟨h1,h2⟩ |⟨g,cap',cur,h1,h2,h3,h4⟩
 ·cases h1
  exact⟨tb,⟨cs,hb⟩,fun wa wb h=>Ext.chg tb h,.inr ⟨rfl,rfl⟩⟩
 ·cases h1
  exact⟨g,⟨cur,hE.blk h3⟩,fun wa wb h=>h,.inl ⟨rfl,h2⟩⟩
def StT(S g N i:Nat)(rest:List Value)(l:List TmC)(c:Int)(q:Rat)(k:Nat)(b:World):Prop:=∃t:TmC,t.c=c∧HoldT g rest b (l.set i t)∧FrQ S b (ratv t) q∧szQ q≤k
theorem StT.ext{S g N i:Nat}{rest:List Value}{l:List TmC}{c:Int}{q:Rat}{k:Nat}{a b:World}(h:StT S g N i rest l c q k a)(he:Ext a b):StT S g N i rest l c q k b:=by
 obtain⟨t,h1,h2,h3,h4⟩:=h;exact⟨t,h1,h2.ext he,h3.ext he,h4⟩
theorem set3(b c d:Value):∀(p:Nat) (l:List Value),p+3≤l.length→((l.set p b).set (p+1) c).set (p+2) d=laidS l p [b,c,d]
 |0,x1::x2::x3::l,_=>rfl
 |p+1,x::l,h=>by
  have:=set3 b c d p l (by simpa using h)
  unfold laidS at this ⊢;rw[show p+1+1=(p+1)+1 from rfl,show p+1+2=(p+2)+1 by omega,List.set_cons_succ,List.set_cons_succ,List.set_cons_succ,this]
  simp[show p+1+3=(p+3)+1 by omega]
theorem og_stT{P:Program}{o:Oper}{a:Act}{f:Nat→Value}{w:World}(S g N i:Nat)(rest:List Value)(l:List TmC)(c:Int)(q:Rat)(k:Nat)(x y:Operand)(ty:TypeId)(v:Value)(hgd:o.guard=none)(ho:o.op= .store ty x y)(hx:a.eval x= .pointer (some ⟨g,i*4+1,none⟩))(hy:a.eval y=v)(hv:FrQ S w v q)(hk:szQ q≤k)
  (hty:(P.info? ty).map (·.size)=some 3) (hH:HoldT g rest w l) (old:TmC) (hold:l[i]? =some old) (hc:old.c=c) (hgS:g<S):OpGoal P o a f w (Chg g) (fun _ w2=>StT S g N i rest l c q k w2):=by
 obtain⟨b,a1,n1,c1,a2,n2,c2,rfl,hv⟩:=hv.opn;have hi:=(List.getElem?_eq_some_iff.1 hold).1;have hlen:=flatS_len hH.1.size;rw[List.length_map]at hlen;have hrun:=run_storeVar_at (P:=P) w g (i*4+1) 95 ty _ #[.bool b,.slice a1 n1 c1,.slice a2 n2 c2] hH.2 hty (by rw[List.length_append,hlen];show i*4+1+3≤_;omega) (all3 rfl rfl rfl)
 have hlen2:i*4+4≤(flatS (l.map tmv)++rest).length:=by rw[List.length_append,hlen];omega
 have h0:(flatS (l.map tmv)++rest)[i*4]? =some (.int .i64 c):=by
  rw[List.getElem?_append_left (by omega)]
  have:=flatS_get (n:=4) (by omega) hH.1.size (i:=i) (cs:=#[.int .i64 old.c,.bool old.b,.slice old.a1 old.n1 old.c1,.slice old.a2 old.n2 old.c2]) (by rw[List.getElem?_map,hold];rfl) 0 (by omega)
  rw[Nat.add_zero]at this;rw[this,←hc]
  rfl
 have hlaid:laidS (flatS (l.map tmv)++rest) (i*4+1) [.bool b,.slice a1 n1 c1,.slice a2 n2 c2]=flatS ((l.set i ⟨c,b,a1,n1,c1,a2,n2,c2⟩).map tmv)++rest:=by
  rw[←set3 _ _ _ _ _ (by omega)];have h2:=laidS_flat (rest:=rest) (v:=tmv ⟨c,b,a1,n1,c1,a2,n2,c2⟩) hH.1.size (by rw[List.length_map];exact hi) rfl
  have h3:(tmv ⟨c,b,a1,n1,c1,a2,n2,c2⟩).cells.toList=[.int .i64 c,.bool b,.slice a1 n1 c1,.slice a2 n2 c2]:=rfl
  rw[h3,←set4 _ _ _ _ _ _ hlen2]at h2
  have h4:(flatS (l.map tmv)++rest).set (i*4) (.int .i64 c)=flatS (l.map tmv)++rest:=by
   obtain⟨h5,h6⟩:=List.getElem?_eq_some_iff.1 h0;rw[←h6,List.set_getElem_self]
  rw[h4,show i*4+2=i*4+1+1 from rfl,show i*4+3=i*4+1+2 from rfl,←List.map_set]at h2;exact h2
 have ha:(#[.bool b,.slice a1 n1 c1,.slice a2 n2 c2]:Array Value).toList=[.bool b,.slice a1 n1 c1,.slice a2 n2 c2]:=rfl
 rw[ha,hlaid]at hrun;unfold OpGoal;rw[hgd];unfold Oper.wp execOp;simp only[ho,hx,hy,Instr.storeAt,Instr.sureAddr,Sem.run_bind,Sem.run_pure,Result.andThen_ok,hrun];exact⟨_,rfl,Chg.setRow w g _,⟨c,b,a1,n1,c1,a2,n2,c2⟩,rfl,⟨strN_tmv _,hH.2.setRow _⟩,hv.chg (Chg.setRow w g _) hgS,hk⟩
theorem tsP_snoc(ps:Ps)(p:TmC×Rat):tsP (ps++ [p])=tsP ps++ [p.1]:=by unfold tsP;simp
theorem lP_snoc(ps:Ps)(p:TmC×Rat):lP (ps++ [p])=lP ps++ [(p.1.c,p.2)]:=by unfold lP;simp
theorem to_app{B S n K K' gA:Nat}{c:Int}{q:Rat}{wr w6 w7:World}{hv v':Value}{ps:Ps}{m:List (Int×Rat)}(hps:lP ps=m)(hfr:∀p∈ps,FrQ B wr (ratv p.1) p.2∧szQ p.2≤K)(he:Ext wr w6)(hC:Chg gA w6 w7)(hgA:∃cs,Bx 95 w6 gA cs)(hA:ApT B S n c q (tsP ps) hv v' w7)(hB:B≤S)(hK:K≤K')(hq:szQ q≤K'):TO B K' w7 v' (m++ [(c,q)]):=by
 obtain⟨t,g,cap,h1,h2,h3,h4,h5⟩:=hA;obtain⟨cs,hb⟩:=hgA
 have e:m++ [(c,q)]=lP (ps++ [(t,q)]):=by rw[lP_snoc,hps,h3]
 rw[e]
 refine TO.of_ps (by rw[tsP_snoc];exact h2) fun p hp=> ?_
 rcases List.mem_append.1 hp with hp |hp
 ·obtain⟨f1,f2⟩:=hfr p hp;exact⟨(f1.ext he).chgB hC hb (by decide),by omega⟩
 ·rw[List.mem_singleton]at hp;subst hp;exact⟨h4.mono hB,hq⟩
theorem lP_last{ps:Ps}{m0:List (Int×Rat)}{d:Int}{r:Rat}(h:lP ps=m0++ [(d,r)]):∃(ps0:Ps) (p:TmC×Rat),ps=ps0++ [p]∧lP ps0=m0∧p.1.c=d∧p.2=r:=by
 unfold lP at h ⊢;obtain⟨l1,l2,h1,h2,h3⟩:=List.map_eq_append_iff.1 h;obtain⟨p,l3,h4,h5,h6⟩:=List.map_eq_cons_iff.1 h3
 have:l3=[]:=by simpa using h6
 subst this;simp only[Prod.mk.injEq]at h5;exact⟨l1,p,by rw[h1,h4],h2,h5.1,h5.2⟩
theorem to_store{B S K K' go ln cap N:Nat}{rest:List Value}{d:Int}{r q:Rat}{wr w6 w7:World}{ps:Ps}{m0:List (Int×Rat)}(hps:lP ps=m0++ [(d,r)])(hfr:∀p∈ps,FrQ B wr (ratv p.1) p.2∧szQ p.2≤K)(he:Ext wr w6)(hC:Chg go w6 w7)(hgo:∃cs,Bx 95 w6 go cs)(hln:ln=m0.length)(hS:StT S go N ln rest (tsP ps) d q K' w7)(hB:B≤S)(hBg:B≤go)(hK:K≤K')
  (hc1:ln+1≤cap) (hc2:cap≤9223372036854775807) (hc3:(ln+1)*4+rest.length=cap*4):TO B K' w7 (.slice (some ⟨go,0,none⟩) (ln+1) cap) (m0++ [(d,q)]):=by
 obtain⟨t,h1,h2,h3,h4⟩:=hS;obtain⟨ps0,p0,rfl,k1,k2,k3⟩:=lP_last hps;obtain⟨cs,hb⟩:=hgo
 have hl0:(tsP ps0).length=ln:=by rw[hln,←k1];unfold tsP lP;simp
 have hset:(tsP (ps0++ [p0])).set ln t=tsP (ps0++ [(t,q)]):=by
  rw[tsP_snoc,tsP_snoc,List.set_append_right _ _ (by omega),hl0,Nat.sub_self,List.set_cons_zero]
 rw[hset]at h2
 have e:m0++ [(d,q)]=lP (ps0++ [(t,q)]):=by rw[lP_snoc,k1,h1]
 have hll:((tsP (ps0++ [(t,q)])).map tmv).length=ln+1:=by rw[tsP_snoc,List.length_map,List.length_append,hl0];rfl
 have hLS:=LS.of_hold (e:=95) (n:=4) (B:=B) (w:=w7) (vs:=(tsP (ps0++ [(t,q)])).map tmv) (g:=go) (cap:=cap) (rest:=rest) h2.1 hBg (by rw[hll];exact hc1) hc2 (by rw[hll];exact hc3) h2.2;rw[hll]at hLS;rw[e]
 refine TO.of_ps hLS fun p hp=> ?_
 rcases List.mem_append.1 hp with hp |hp
 ·obtain⟨f1,f2⟩:=hfr p (List.mem_append_left _ hp);exact⟨(f1.ext he).chgB hC hb (by decide),by omega⟩
 ·rw[List.mem_singleton]at hp;subst hp;exact⟨h3.mono hB,h4⟩
def MkJ(w3 wr:World)(k i:Nat)(l:List (Int×Rat))(ov:Value)(m:List (Int×Rat)):Prop:=
 Ext w3 wr∧Up m∧(∀c,getV m c=getV (l.take i) c)∧(∀x∈m,∀y∈l.drop i,x.1≤y.1)∧TO w3.heap.size (i*(k+1)) wr ov m∧m.length≤i
theorem nil_or_snoc{α:Type}(m:List α):m=[]∨∃m0 x,m=m0++ [x]:=by
 rcases List.eq_nil_or_concat m with h |⟨m0,x,h⟩
 ·exact .inl h
 ·exact .inr ⟨m0,x,by rw[h,List.concat_eq_append]⟩
theorem take_snoc{l:List (Int×Rat)}{i:Nat}{c:Int}{q:Rat}(h:l[i]? =some (c,q)):l.take (i+1)=l.take i++ [(c,q)]∧l.drop i=(c,q)::l.drop (i+1):=by
 constructor
 ·rw[List.take_add_one,h]
  rfl
 ·obtain⟨h1,h2⟩:=List.getElem?_eq_some_iff.1 h;rw[List.drop_eq_getElem_cons h1,h2]
theorem MkJ.out{w3 wr w':World}{k i:Nat}{l m:List (Int×Rat)}{ov:Value}{c:Int}{q:Rat}(h:MkJ w3 wr k i l ov m)(hx:l[i]? =some (c,q))(hc:c<0)(he:Ext wr w'):MkJ w3 w' k (i+1) l ov m:=by
 obtain⟨h1,h2,h3,h4,h5,h6⟩:=h;obtain⟨t1,t2⟩:=take_snoc hx;refine⟨h1.trans he,h2,fun d=> ?_,fun x hm y hy=>h4 x hm y (by rw[t2];exact List.mem_cons_of_mem _ hy),(h5.ext he).le (Nat.mul_le_mul_right _ (by omega)),by omega⟩;rw[t1,getV_snoc,if_neg (by omega),Rat.add_zero,h3]
theorem ris_mono{l:List (Int×Rat)}(hr:l.Pairwise fun x y=>x.1≤y.1){i:Nat}{c:Int}{q:Rat}(hx:l[i]? =some (c,q)):∀y∈l.drop (i+1),c≤y.1:=by
 intro y hy;have h:=hr.sublist (List.drop_sublist i l);rw[(take_snoc hx).2,List.pairwise_cons]at h;exact h.1 y hy
theorem MkJ.new{w3 wr w':World}{k i:Nat}{l m:List (Int×Rat)}{ov v':Value}{c:Int}{q:Rat}(h:MkJ w3 wr k i l ov m)(hr:l.Pairwise fun x y=>x.1≤y.1)(hx:l[i]? =some (c,q))(hc:0≤c)(hl:∀x∈m,x.1≠c)(he:Ext w3 w')(hto:TO w3.heap.size ((i+1)*(k+1)) w' v' (m++ [(c,q)])):MkJ w3 w' k (i+1) l v' (m++ [(c,q)]):=by
 obtain⟨h1,h2,h3,h4,h5,h6⟩:=h;obtain⟨t1,t2⟩:=take_snoc hx
 have hle:∀x∈m,x.1<c:=fun x hm=>by
  have h7:=h4 x hm (c,q) (by rw[t2];exact List.mem_cons_self ..);have h8:=hl x hm
  simp only at h7
  omega
 refine⟨he,h2.snoc hc hle,fun d=> ?_,fun x hm y hy=> ?_,hto,by rw[List.length_append];simp;omega⟩
 ·rw[t1,getV_snoc,getV_snoc,h3]
 ·have h9:=ris_mono hr hx y hy
  rcases List.mem_append.1 hm with hm |hm
  ·have:=hle x hm;omega
  ·rw[List.mem_singleton]at hm;subst hm;exact h9
theorem MkJ.more{w3 wr w':World}{k i:Nat}{l m:List (Int×Rat)}{ov v':Value}{c:Int}{q r:Rat}(h:MkJ w3 wr k i l ov (m++ [(c,r)]))(hr:l.Pairwise fun x y=>x.1≤y.1)(hx:l[i]? =some (c,q))(he:Ext w3 w')(hto:TO w3.heap.size ((i+1)*(k+1)) w' v' (m++ [(c,r+q)])):MkJ w3 w' k (i+1) l v' (m++ [(c,r+q)]):=by
 obtain⟨h1,h2,h3,h4,h5,h6⟩:=h;obtain⟨t1,t2⟩:=take_snoc hx;obtain⟨u1,u2⟩:=h2.last (r:=r+q);refine⟨he,u1,fun d=> ?_,fun x hm y hy=> ?_,hto,by simp at h6 ⊢;omega⟩
 ·rw[u2,h3,t1,getV_snoc,show r+q - r=q by grind]
 ·have h9:=ris_mono hr hx y hy
  rcases List.mem_append.1 hm with hm |hm
  ·exact h4 x (List.mem_append_left _ hm) y (by rw[t2];exact List.mem_cons_of_mem _ hy)
  ·rw[List.mem_singleton]at hm;subst hm;exact h9
theorem MkJ.ne{w3 wr:World}{k i:Nat}{l m:List (Int×Rat)}{ov:Value}{c d:Int}{q r:Rat}(h:MkJ w3 wr k i l ov (m++ [(d,r)]))(hx:l[i]? =some (c,q))(hd:d≠c):∀x∈m++ [(d,r)],x.1≠c:=by
 obtain⟨h1,h2,h3,h4,h5,h6⟩:=h;obtain⟨t1,t2⟩:=take_snoc hx;intro x hxm
 rcases List.mem_append.1 hxm with hm |hm
 ·have h7:=h4 (d,r) (by simp) (c,q) (by rw[t2];exact List.mem_cons_self ..);have h8:=(List.pairwise_append.1 h2.1).2.2 x hm (d,r) (List.mem_singleton.2 rfl)
  simp only at h7 h8
  omega
 ·rw[List.mem_singleton]at hm;subst hm;exact hd
theorem ris_lP{ps:Ps}(h:Ris tkey (tsP ps)):(lP ps).Pairwise fun x y=>x.1≤y.1:=by
 unfold Ris tsP at h;unfold lP;rw[List.pairwise_map]at h ⊢;exact h
set_option maxHeartbeats 16000000 in
theorem vmake_calls(k:Nat)(v:Value)(l:List (Int×Rat))(w:World)(hl:TL k w v l)(hn:l.length≤1073741824)(hk:(l.length+1)*(k+1)≤34359738000):
  Calls Tryz.prog 85 #[v] w fun e w'=>∃v',e= .returned v'∧TO w.heap.size (l.length*(k+1)) w' v' (mkV l)∧Ext w w':=by
 obtain⟨ad,n,cap,hnl,rfl,hn1, -⟩:=hl.at;have HTL:=Lib.hid hl;have HN:=Lib.hid hnl;rw[←hnl]at hn hk
 have hkk:k≤34359738000:=by
  have:1*(k+1)≤(n+1)*(k+1):=Nat.mul_le_mul_right _ (by omega)
  omega
 have HFIN:∀(m:List (Int×Rat)),Up m→(∀c,getV m c=getV l c)→nz m=mkV l:=fun m h1 h2=>mkV_eq h1.nz fun c=>by rw[getV_nz,h2]
 have HFINH:=Lib.hid HFIN;clear hl hnl HFIN;rw[←HN.out]
 go_enter Tryz.func85,Tryz.ntmps85
 go_wp2_with fail;refine(vclone_calls k _ l w HTL.out (by rw[←HN.out];omega)).mono ?_;rintro e w2 ⟨v2,ps,rfl,hls,hlP,hR,e2⟩
 have hpl:ps.length=n:=by rw[HN.out,←hlP];unfold lP;simp
 obtain⟨ad2,cap2,rfl, -⟩:=hls.opn
 have htl:((tsP ps).map tmv).length=n:=by unfold tsP;simp[hpl]
 rw[htl]at hls ⊢;have HLS:=Lib.hid hls;clear hls;go_wp2_with fail;refine(vsort_calls w.heap.size _ (tsP ps) w2 HLS.out (by unfold tsP;rw[List.length_map,hpl];omega)).mono ?_;rintro e w3 ⟨rfl,hg3,ts',hp',hs',hls3⟩;obtain⟨ps',hpp,rfl⟩:=perm_lift hp'
 have e3:Ext w w3:=e2.stepG hg3 fun g hg=>by
  rcases HLS.out.2.2 with⟨h1,h2⟩ |⟨g',cap,cur,h1,h2,h3,h4⟩
  ·rw[h1]at hg;cases hg
  ·rw[h1]at hg;simp only[Value.ownBlock,Option.some.injEq]at hg;subst hg;exact h2
 have hris:=ris_lP hs'
 have hTL3:TL k w3 (.slice ad2 n cap2) (lP ps'):=LS.tl hls3 fun p hp=>(hR p (hpp.mem_iff.1 hp)).ext e3
 have hperm:(lP ps').Perm l:=by rw[←hlP];exact lP_perm hpp
 obtain⟨l',hl'⟩:∃l',l'=lP ps':=⟨_,rfl⟩;rw[←hl']at hris hTL3 hperm
 have hll:l'.length=n:=by rw[hperm.length_eq,HN.out]
 obtain⟨ad3,n3,cap3,hn3,hv3,hn31,hat3⟩:=hTL3.at
 cases hv3
 have HAT:=Lib.hid hat3;have HRIS:=Lib.hid hris;have HPERM:=Lib.hid hperm;have HLL:=Lib.hid hll;have HE3:=Lib.hid e3;clear hp' hpp hs' hls3 hl' hR hlP hg3 e2 hpl htl hris hTL3 hperm hll hn3 hat3 e3 HLS HTL;go_wp2_with fail
 go_loopw [2,13] (fun s2 s13 wr=>∃(i:Nat) (m:List (Int×Rat)) (ado:Option Addr) (capo:Nat),i≤n∧s13= .int .i64 (i:Int)∧s2= .slice ado m.length capo∧Hid (MkJ w3 wr k i l' (.slice ado m.length capo) m)) (fun _ s13 _=>((n:Int) - intOf s13).toNat)
 case atStart=>exact ⟨0,[],none,0,Nat.zero_le _,rfl,rfl,Lib.hid ⟨Ext.refl _,Up.nil,fun c=>by simp,(fun x hx=>by cases hx),⟨[],rfl,LS.nil _ _ _ _,fun i t x h=>by simp at h⟩,Nat.le_refl _⟩⟩
 case round=>
  obtain⟨i,m,ado,capo,hi,rfl,rfl,hJ⟩:=hrel;have hE3:=hJ.out.1
  rcases Nat.eq_or_lt_of_le hi with hin |hin
  ·subst hin
   have hlt:¬((i:Int)<(i:Int)):=by omega
   have hF:Hid (nz m=mkV l):=by
    obtain⟨h1,h2,h3, -⟩:=hJ.out;refine Lib.hid (HFINH.out m h2 fun c=> ?_);rw[h3,←HLL.out,List.take_length];exact getV_perm HPERM.out c
   have hml:=hJ.out.2.2.2.2.2;go_wp2_with fail;refine(vdel_calls w3.heap.size (i*(k+1)) _ m wr hJ.out.2.2.2.2.1 (by rw[LIM_eq];have:i*(k+1)≤(i+1)*(k+1):=Nat.mul_le_mul_right _ (by omega);omega) (by omega)).mono ?_;rintro e w9 ⟨v9,rfl,hto,hg9⟩;rw[hF.out]at hto;have HTO:=Lib.hid hto
   have E9:Ext w w9:=(HE3.out.trans hE3).stepG hg9 fun g hg=>by
    obtain⟨ts,h1,h2, -⟩:=hJ.out.2.2.2.2.1;have h4:=HE3.out.size
    rcases h2.2.2 with⟨h5,h6⟩ |⟨g',cap',cur,h5,h6,h7⟩
    ·rw[h5]at hg;cases hg
    ·rw[h5]at hg;simp only[Value.ownBlock,Option.some.injEq]at hg;subst hg
     omega
   have h3s:=HE3.out.size;clear hto hg9 hF;go_wp2;go_ret;exact⟨_,rfl,HTO.out.mono h3s,E9⟩
  ·have hlt:(i:Int)<(n:Int):=by omega
   obtain⟨x,hx⟩:∃x,l'[i]? =some x:=⟨_,List.getElem?_eq_getElem (by rw[HLL.out];exact hin)⟩;obtain⟨g,off,rfl,b',a1,n1,c1,a2,n2,c2,hcell⟩:=HAT.out i x hx;obtain⟨hc0,hc1,hc2,hc3,hIsR⟩:=hcell wr hE3;obtain⟨xc,xq⟩:=x
   simp only at hc0 hc1 hc2 hc3 hIsR
   have HX:=Lib.hid (And.intro hx hIsR);obtain⟨w5,hw5,e5,b5,s5⟩:=alloc1 wr #[.int .i64 xc,.bool b',.slice a1 n1 c1,.slice a2 n2 c2] 95
   have hmul:i*(k+1)+(k+1)=(i+1)*(k+1):=by rw[Nat.succ_mul]
   have hle:(i+1)*(k+1)≤(n+1)*(k+1):=Nat.mul_le_mul_right _ (by omega);have HML:=Lib.hid (And.intro hmul hle);have E5:=hE3.trans e5;obtain⟨i1,hi1⟩:∃i1,i1=i+1:=⟨_,rfl⟩
   have hi1':(i:Int)+1=(i1:Int):=by omega
   have HI1:=Lib.hid hi1
   have hi1n:i1≤n:=by omega
   clear hx hIsR hcell hi1 hmul hle
   by_cases hneg:xc<0
   ·go_wp2;go_roundw
    case rel=>
     rw[←hw5];refine⟨i1,m,ado,capo,hi1n,rfl,rfl,Lib.hid ?_⟩;rw[HI1.out];exact hJ.out.out HX.out.1 hneg e5
    case measure=>have:=HI1.out;simp[intOf];omega
   ·have hml:=hJ.out.2.2.2.2.2
    rcases nil_or_snoc m with rfl |⟨m0,⟨d,r⟩,rfl⟩
    ·go_wp2_with fail;rw[←hw5];refine wpQ [PP.val (.int .i64 0),PP.val (.bool false),PP.val (.bool false),PP.any,PP.any,PP.any,PP.any,PP.any,PP.any,PP.any,PP.any,PP.any,PP.val (.bool false)] [] [0,1,2,3,4,5,6,7,8,9,10,11,12] ?_ ?_
     ·refine⟨?_,?_,?_,?_,?_,?_,?_,?_,?_,?_,?_,?_,?_,trivial⟩
      ·intro f w6 hG hp hl;simp only[OpGoal];go_simp;exact⟨_,rfl,Ext.refl _,rfl⟩
      ·intro f w6 hG hp hl;have q22:=tE hp 0 0 rfl rfl rfl;simp only[OpGoal];go_simp;exact⟨_,rfl,Ext.refl _,rfl⟩
      ·intro f w6 hG hp hl;have q23:=tE hp 0 1 rfl rfl rfl;simp only[OpGoal];go_simp;exact⟨_,rfl,Ext.refl _,rfl⟩
      ·intro f w6 hG hp hl;have qg:=tE hp 0 2 rfl rfl rfl;exact og_skip rfl qg (by decide) trivial
      ·intro f w6 hG hp hl;have qg:=tE hp 0 2 rfl rfl rfl;exact og_skip rfl qg (by decide) trivial
      ·intro f w6 hG hp hl;have qg:=tE hp 1 2 rfl rfl rfl;exact og_skip rfl qg (by decide) trivial
      ·intro f w6 hG hp hl;have qg:=tE hp 2 2 rfl rfl rfl;exact og_skip rfl qg (by decide) trivial
      ·intro f w6 hG hp hl;have qg:=tE hp 1 2 rfl rfl rfl;exact og_skip rfl qg (by decide) trivial
      ·intro f w6 hG hp hl;have qg:=tE hp 1 2 rfl rfl rfl;exact og_skip rfl qg (by decide) trivial
      ·intro f w6 hG hp hl;have qg:=tE hp 0 2 rfl rfl rfl;exact og_skip rfl qg (by decide) trivial
      ·intro f w6 hG hp hl;have qg:=tE hp 1 2 rfl rfl rfl;exact og_skip rfl qg (by decide) trivial
      ·intro f w6 hG hp hl;have qg:=tE hp 2 2 rfl rfl rfl;exact og_skip rfl qg (by decide) trivial
      ·intro f w6 hG hp hl;have q24:=tE hp 0 2 rfl rfl rfl;simp only[OpGoal];go_simp;exact⟨_,rfl,Ext.refl _,rfl⟩
     ·intro f w6 hG hp;have hE:Ext w5 w6:=ChgS.nil hG
      have q34:f 12= .bool false:=endV hp 12 (by decide) rfl (fun h=>by cases h)
      try simp only[q34]
      clear hp;have b6:=b5.ext hE;have E56:=e5.trans hE;obtain⟨pso,hpso,hlso,hfro⟩:=hJ.out.2.2.2.2.1.ps
      have hol:((tsP pso).map tmv).length=0:=by
       have:=congrArg List.length hpso
       unfold lP at this;unfold tsP
       simp at this ⊢
       omega
      have HPSO:=Lib.hid hpso;have HO:=Lib.hid hlso;have HFO:=Lib.hid hfro;have HOL:=Lib.hid hol;obtain⟨gA,hgA,hgr,hgw⟩:=gT_spec hlso E56 b6
      have hgAl:gA<w6.heap.size:=by obtain⟨cs,h1⟩:=hgA;exact blk_lt h1
      have HGA:=Lib.hid hgA;have HGR:=Lib.hid hgr;have HGW:=Lib.hid hgw;clear hpso hlso hfro hol hgA hgr hgw;have hwr:=hE3.size;have hw56:=E56.size;go_wp2_with fail
      refine wp_region_one gA 8 9 (fun v b=>ApT w3.heap.size w6.heap.size (0) (xc) (xq) (tsP pso) (.slice ado (0) capo) v b) [PP.val (.slice ado (0) capo),PP.val (.pointer (some ⟨wr.heap.size,0,none⟩)),PP.val (.int .i64 xc),PP.val (.pointer (some ⟨wr.heap.size,1,none⟩)),PP.val (.agg #[.bool b',.slice a1 n1 c1,.slice a2 n2 c2]),PP.frQ xq,PP.frTm (xc) (xq),PP.oneT (xc) (xq),PP.any,PP.any] [(0,9,2)] [8,7,6,5,4,3,2,1,0] (by kernel_rfl) (by kernel_rfl) (fun f=>(by simp only[fillR,fillL,List.setIfInBounds_toArray,List.set_cons_succ,List.set_cons_zero,Nat.reduceAdd];rfl)) (by decide) (hgAl) (fun u w1 w2 h hp=>hp.ext h) (by intro p hp;simp only[List.mem_cons,List.not_mem_nil,or_false]at hp;rcases hp with rfl |rfl |rfl |rfl |rfl |rfl |rfl |rfl |rfl |rfl<;>rfl) (fun _ _=>trivial) ?_ ?_ (by decide)
      ·refine⟨?_,?_,?_,?_,?_,?_,?_,?_,?_,?_,trivial⟩
       ·intro f w7 hG hp hl
        have l2:f 9= .slice ado (0) capo:=hl.1 rfl
        simp only[OpGoal];go_simp;exact⟨_,rfl,Ext.refl _,rfl⟩
       ·intro f w7 hG hp hl;simp only[OpGoal];go_simp;exact⟨_,rfl,Ext.refl _,rfl⟩
       ·intro f w7 hG hp hl;have hE:Ext w6 w7:=hG
        have q50:f 1= .pointer (some ⟨wr.heap.size,0,none⟩):=tellO hp 0 1 rfl rfl
        have hcell:=(b6.ext hE).cell 0;simp only[OpGoal];go_simp;exact⟨_,rfl,Ext.refl _,rfl⟩
       ·intro f w7 hG hp hl;simp only[OpGoal];go_simp;exact⟨_,rfl,Ext.refl _,rfl⟩
       ·intro f w7 hG hp hl;have hE:Ext w6 w7:=hG
        have q52:f 3= .pointer (some ⟨wr.heap.size,1,none⟩):=tellO hp 0 3 rfl rfl
        have hbx:=b6.ext hE;have hcell0:=hbx.cell 0;have hcell1:=hbx.cell 1;have hcell2:=hbx.cell 2;have hcell3:=hbx.cell 3;simp only[OpGoal];go_simp;exact⟨_,rfl,Ext.refl _,rfl⟩
       ·intro f w7 hG hp hl;have hE:Ext w6 w7:=hG;have hS:=hE.size
        have q53:f 4= .agg #[.bool b',.slice a1 n1 c1,.slice a2 n2 c2]:=tellO hp 0 4 rfl rfl
        change OpGoal _ _ _ f w7 Ext _;refine oC #[f 4] Tryz.func141 rfl rfl ?_;rw[q53];refine(form_calls _ xq k _ (HX.out.2.ext (E56.trans hE)) (by omega)).mono ?_;rintro e w' ⟨v',rfl,h1,h2⟩;exact⟨v',rfl,h2,h1.mono hS⟩
       ·intro f w7 hG hp hl
        have q51:f 2= .int .i64 xc:=tellO hp 0 2 rfl rfl
        have q54:=tellO hp 1 5 rfl rfl;obtain⟨tb,ta1,tn1,tc1,ta2,tn2,tc2,tv,tq⟩:=FrQ.opn (q54);change OpGoal _ _ _ f w7 Ext _;simp only[OpGoal];go_simp;exact⟨_,rfl,Ext.refl _,⟨xc,tb,ta1,tn1,tc1,ta2,tn2,tc2⟩,rfl,rfl,tq⟩
       ·intro f w7 hG hp hl;have hE:Ext w6 w7:=hG;have hS:=hE.size;have q55:=tellO hp 0 6 rfl rfl;obtain⟨tt,tv,tc,tq⟩:=q55;change OpGoal _ _ _ f w7 Ext _;exact og_buildSlice (P:=Tryz.prog) 31 95 1 4 _ [tmv tt] rfl rfl Tryz.underlying31 (by kernel_rfl) (by kernel_rfl) (by simp only[Act.eval];exact congrArg (fun z=> [(0,z)]) tv) rfl (by omega) (by omega) (by omega) (strN_tmv [tt]).size (fun w' he hb=>⟨_,tt,hS,rfl,hb,tc,tq.ext he⟩)
       ·intro f w7 hG hp hl;have hE:Ext w6 w7:=hG;have hS:=hE.size
        have q49:f 0= .slice ado (0) capo:=tellO hp 0 0 rfl rfl
        have q56:=tellO hp 1 7 rfl rfl
        have qL:f 0= .slice ado (0) capo:=tellO hp 0 0 rfl rfl
        obtain⟨gx,tt,hgx,hvx,hbx,htc,htq⟩:=tellO hp 1 7 rfl rfl;change OpGoal _ _ _ f w7 (Chg gA) _
        refine og_append (P:=Tryz.prog) _ _ 31 rfl rfl w3.heap.size 95 4 64 Tryz.underlying31 (by kernel_rfl) (by kernel_rfl) (by omega) (.slice ado (0) capo) (0) (flatS ((tsP pso).map tmv)) qL (by have:=(HO.out.ext (E56.trans hE)).2;rw[HOL.out]at this;exact this) ⟨gx,0,none⟩ 1 1 [.int .i64 tt.c,.bool tt.b,.slice tt.a1 tt.n1 tt.c1,.slice tt.a2 tt.n2 tt.c2] hvx rfl (fun j u hj=>by rw[addr_add,Nat.zero_add,hbx.cell];unfold tmv;simpa[Value.cells]using hj) (by intro u hu;simp at hu;rcases hu with rfl |rfl |rfl |rfl<;>rfl) (by omega) (by unfold maxLen;omega) (by omega) (by have:=hE.size;omega) (fun v' w' h1 h2 h3=>⟨HGR.out _ _ h2,ap_fin (by have:=HOL.out;rw[List.length_map]at this;exact this) h1 h3 hE.size htc (htq.chg (HGR.out _ _ h2) hgAl)⟩)
       ·intro f w7 hG hp hl;have hS:w6.heap.size≤w7.heap.size:=Chg.size hG;change OpGoal _ _ _ f w7 Ext _;simp only[OpGoal];go_simp;exact⟨_,rfl,Ext.refl _,rfl⟩
      ·intro f w7 hC hF1 hmv hp;clear hp;obtain⟨tt,go,co,hv9,hls9,htc9,htq9,hgo9⟩:=id hF1;have hf9:=(hmv (by decide)).trans hv9;have hTO:=to_app HPSO.out HFO.out E56 hC HGA.out (hv9▸hF1) (show w3.heap.size≤w6.heap.size by omega) (show i*(k+1)≤(i+1)*(k+1)by have:=HML.out;omega) (show szQ xq≤(i+1)*(k+1)by have:=HX.out.2.sz;have:=HML.out;omega)
       have E7:Ext w3 w7:=(hE3.trans E56).step hC (by rcases HGW.out with⟨-,h⟩ |⟨-,h⟩<;>omega)
       have HNJ:=Lib.hid (hJ.out.new HRIS.out HX.out.1 (by omega) (fun x hx=>by cases hx) E7 hTO)
       have HLM:Hid ((([])++ [(xc,xq)]).length=0+1):=Lib.hid (by have:=HOL.out;have h0:=congrArg List.length HPSO.out;unfold tsP at this;unfold lP at h0;simp at this h0 ⊢ <;>omega)
       rw[hf9];clear hF1 hmv hv9 hls9 htc9 htq9 hgo9 hTO hf9;go_wp2;go_roundw
       case rel=>exact ⟨i1,([])++ [(xc,xq)],some ⟨go,0,none⟩,co,hi1n,rfl,by first |rfl |rw [HLM.out],Lib.hid (by have:=HNJ.out;rw[←HI1.out]at this;rw[HLM.out];exact this)⟩
       case measure=>have:=HI1.out;simp[intOf];omega
    ·obtain⟨ln,hln⟩:∃ln,ln=m0.length:=⟨_,rfl⟩;obtain⟨mn,hmn⟩:∃mn,mn=ln+1:=⟨_,rfl⟩
     have hmm:(m0++ [(d,r)]).length=mn:=by rw[List.length_append,hmn,hln];rfl
     have hJ2:=hJ.out;rw[hmm]at hJ2 hml ⊢;obtain⟨pso,hpso,hlso,hfro⟩:=hJ2.2.2.2.2.1.ps
     have hol:((tsP pso).map tmv).length=mn:=by
      have:=congrArg List.length hpso
      rw[hmm]at this;unfold lP at this;unfold tsP
      simpa using this
     obtain⟨go,capo',rest,f1,f2,f3,f4,f5,f6⟩:=hlso.hold (by rw[hol];omega);rw[hol]at f1 f3 f5
     cases f1
     obtain⟨ps0,p0,hp0,hps0,hp0c,hp0q⟩:=lP_last hpso
     have hl0:(tsP ps0).length=ln:=by rw[hln,←hps0];unfold tsP lP;simp
     have hget:(tsP pso)[ln]? =some p0.1:=by rw[hp0,tsP_snoc];exact get_at hl0.symm
     have hHT:HoldT go rest wr (tsP pso):=⟨strN_tmv _,f6⟩;have HCO:=Lib.hid (hHT.at hget)
     have HCO0:Hid (∀wz,Ext wr wz→wz.cell? ⟨go,ln*4,none⟩=some (.int .i64 d)):=Lib.hid fun wz hz=>by rw[←hp0c];exact HCO.out wz hz 0 _ rfl
     have HC3:Hid (∀wz,Ext wr wz→∀(j:Nat) (v:Value),(#[.bool p0.1.b,.slice p0.1.a1 p0.1.n1 p0.1.c1,.slice p0.1.a2 p0.1.n2 p0.1.c2]:Array Value)[j]? =some v→wz.cell? ⟨go,ln*4+1+j,none⟩=some v):=Lib.hid fun wz hz j v hj=>by
      match j,hj with
      |0,hj=>exact HCO.out wz hz 1 v hj
      |1,hj=>exact HCO.out wz hz 2 v hj
      |2,hj=>exact HCO.out wz hz 3 v hj
      |j+3,hj=>simp at hj
     have hfr0:=hfro p0 (by rw[hp0];simp);rw[hp0q]at hfr0;have HR0:=Lib.hid hfr0;have HPS:=Lib.hid (And.intro hpso (And.intro hfro (And.intro hln (And.intro hmn (And.intro hget hp0c)))));have HGO:=Lib.hid (And.intro f2 (And.intro f3 (And.intro f4 (And.intro f5 hHT))));have hgol:go<wr.heap.size:=blk_lt f6;have HJ2:=Lib.hid hJ2
     have hmn1:(mn:Int) - 1=(ln:Int):=by omega
     have hmn0:(0:Int)<(mn:Int):=by omega
     have hlnm:ln<mn:=by omega
     have hlnm':(ln:Int)<(mn:Int):=by omega
     obtain⟨s,hs⟩:∃s:Bool,s=(d==xc):=⟨_,rfl⟩;have HS:=Lib.hid hs;clear hs hln hmn hmm hJ2 hpso hlso hfro hol f2 f3 f4 f5 f6 hp0 hps0 hp0c hp0q hl0 hget hHT hfr0;go_wp2_with fail;rw[←hw5];refine wpQ [PP.val (.int .i64 (mn:Int)),PP.val (.bool true),PP.val (.bool true),PP.val (.slice (some ⟨go,0,none⟩) mn capo),PP.val (.int .i64 (mn:Int)),PP.val (.int .i64 (ln:Int)),PP.val (.pointer (some ⟨go,ln*4,none⟩)),PP.val (.pointer (some ⟨go,ln*4,none⟩)),PP.val (.int .i64 d),PP.val (.pointer (some ⟨wr.heap.size,0,none⟩)),PP.val (.int .i64 xc),PP.val (.bool s),PP.val (.bool s)] [] [0,1,2,3,4,5,6,7,8,9,10,11,12] ?_ ?_
     ·refine⟨?_,?_,?_,?_,?_,?_,?_,?_,?_,?_,?_,?_,?_,trivial⟩
      ·intro f w6 hG hp hl;simp only[OpGoal];go_simp;exact⟨_,rfl,Ext.refl _,rfl⟩
      ·intro f w6 hG hp hl;have hE:Ext w5 w6:=hG;have hS:=hE.size;have q22:=tE hp 0 0 rfl rfl rfl;simp only[OpGoal];go_simp
       first
       |exact ⟨_,rfl,Ext.refl _,rfl⟩
       |exact ⟨_,rfl,Ext.refl _,congrArg Value.bool (decide_eq_true (by omega))⟩
      ·intro f w6 hG hp hl;have q23:=tE hp 0 1 rfl rfl rfl;simp only[OpGoal];go_simp;exact⟨_,rfl,Ext.refl _,rfl⟩
      ·intro f w6 hG hp hl;have qg:=tE hp 0 2 rfl rfl rfl;change OpGoal _ _ _ f w6 Ext _;refine og_guard (j:=2) (want:=true) rfl qg ?_;simp only[OpGoal];go_simp;exact⟨_,rfl,Ext.refl _,rfl⟩
      ·intro f w6 hG hp hl;have qg:=tE hp 0 2 rfl rfl rfl;change OpGoal _ _ _ f w6 Ext _;refine og_guard (j:=2) (want:=true) rfl qg ?_;simp only[OpGoal];go_simp;exact⟨_,rfl,Ext.refl _,rfl⟩
      ·intro f w6 hG hp hl;have hE:Ext w5 w6:=hG;have hS:=hE.size;have q26:=tE hp 0 4 rfl rfl rfl;have qg:=tE hp 1 2 rfl rfl rfl;change OpGoal _ _ _ f w6 Ext _;refine og_guard (j:=2) (want:=true) rfl qg ?_;simp only[OpGoal];go_simp
       first
       |exact ⟨_,rfl,Ext.refl _,rfl⟩
       |exact ⟨_,rfl,Ext.refl _,congrArg (Value.int .i64) (Go.IntWalk.i64_in _ ⟨by omega,by omega⟩)⟩
      ·intro f w6 hG hp hl;have q25:=tE hp 0 3 rfl rfl rfl;have q27:=tE hp 1 5 rfl rfl rfl;have qg:=tE hp 2 2 rfl rfl rfl;change OpGoal _ _ _ f w6 Ext _;refine og_guard (j:=2) (want:=true) rfl qg ?_;simp only[OpGoal];go_simp;exact⟨_,rfl,Ext.refl _,rfl⟩
      ·intro f w6 hG hp hl;have q28:=tE hp 0 6 rfl rfl rfl;have qg:=tE hp 1 2 rfl rfl rfl;change OpGoal _ _ _ f w6 Ext _;refine og_guard (j:=2) (want:=true) rfl qg ?_;simp only[OpGoal];go_simp;exact⟨_,rfl,Ext.refl _,rfl⟩
      ·intro f w6 hG hp hl;have hE:Ext w5 w6:=hG;have q29:=tE hp 0 7 rfl rfl rfl;have qg:=tE hp 1 2 rfl rfl rfl;change OpGoal _ _ _ f w6 Ext _;refine og_guard (j:=2) (want:=true) rfl qg ?_;have hcell:=HCO0.out _ (e5.trans hE);simp only[OpGoal];go_simp;exact⟨_,rfl,Ext.refl _,rfl⟩
      ·intro f w6 hG hp hl;have qg:=tE hp 0 2 rfl rfl rfl;change OpGoal _ _ _ f w6 Ext _;refine og_guard (j:=2) (want:=true) rfl qg ?_;simp only[OpGoal];go_simp;exact⟨_,rfl,Ext.refl _,rfl⟩
      ·intro f w6 hG hp hl;have hE:Ext w5 w6:=hG;have q31:=tE hp 0 9 rfl rfl rfl;have qg:=tE hp 1 2 rfl rfl rfl;change OpGoal _ _ _ f w6 Ext _;refine og_guard (j:=2) (want:=true) rfl qg ?_;have hcell:=(b5.ext hE).cell 0;simp only[OpGoal];go_simp;exact⟨_,rfl,Ext.refl _,rfl⟩
      ·intro f w6 hG hp hl;have q30:=tE hp 0 8 rfl rfl rfl;have q32:=tE hp 1 10 rfl rfl rfl;have qg:=tE hp 2 2 rfl rfl rfl;change OpGoal _ _ _ f w6 Ext _;refine og_guard (j:=2) (want:=true) rfl qg ?_;simp only[OpGoal];go_simp
       first
       |exact ⟨_,rfl,Ext.refl _,congrArg Value.bool HS.out.symm⟩
       |exact ⟨_,rfl,Ext.refl _,congrArg Value.bool (by rw[HS.out];rfl)⟩
      ·intro f w6 hG hp hl;have q24:=tE hp 0 2 rfl rfl rfl;have q33:=tE hp 1 11 rfl rfl rfl;simp only[OpGoal];go_simp;exact⟨_,rfl,Ext.refl _,rfl⟩
     ·intro f w6 hG hp;have hE:Ext w5 w6:=ChgS.nil hG
      have q34:f 12= .bool s:=endV hp 12 (by decide) rfl (fun h=>by cases h)
      try simp only[q34]
      clear hp;have b6:=b5.ext hE;have E56:=e5.trans hE
      cases s with
      |true=>
       have hdx:d=xc:=by have:=HS.out;simpa using this.symm
       have HDX:=Lib.hid hdx
       have hgo6:go<w6.heap.size:=by have:=E56.size;omega
       clear hdx;go_wp2_with fail
       refine wp_region_one go 14 99 (fun _ b=>StT w6.heap.size go 0 ln rest (tsP pso) d (r+xq) ((i+1)*(k+1)) b) [PP.val (.slice (some ⟨go,0,none⟩) mn capo),PP.val (.int .i64 (mn:Int)),PP.val (.int .i64 (ln:Int)),PP.val (.slice (some ⟨go,0,none⟩) mn capo),PP.val (.int .i64 (mn:Int)),PP.val (.int .i64 (ln:Int)),PP.val (.pointer (some ⟨go,ln*4,none⟩)),PP.val (.pointer (some ⟨go,ln*4+1,none⟩)),PP.val (.agg #[.bool p0.1.b,.slice p0.1.a1 p0.1.n1 p0.1.c1,.slice p0.1.a2 p0.1.n2 p0.1.c2]),PP.val (.pointer (some ⟨wr.heap.size,1,none⟩)),PP.val (.agg #[.bool b',.slice a1 n1 c1,.slice a2 n2 c2]),PP.frQS (r+xq) ((i+1)*(k+1)),PP.val (.pointer (some ⟨go,ln*4,none⟩)),PP.val (.pointer (some ⟨go,ln*4+1,none⟩)),PP.any] [] [14,13,12,11,10,9,8,7,6,5,4,3,2,1,0] (by kernel_rfl) (by kernel_rfl) (fun f=>(by simp only[fillR,fillL,List.setIfInBounds_toArray,List.set_cons_succ,List.set_cons_zero,Nat.reduceAdd];rfl)) (by decide) (hgo6) (fun u w1 w2 h hp=>hp.ext h) (by intro p hp;simp only[List.mem_cons,List.not_mem_nil,or_false]at hp;rcases hp with rfl |rfl |rfl |rfl |rfl |rfl |rfl |rfl |rfl |rfl |rfl |rfl |rfl |rfl |rfl<;>rfl) (fun _ _=>trivial) ?_ ?_ (by decide)
       ·refine⟨?_,?_,?_,?_,?_,?_,?_,?_,?_,?_,?_,?_,?_,?_,?_,trivial⟩
        ·intro f w7 hG hp hl;simp only[OpGoal];go_simp;exact⟨_,rfl,Ext.refl _,rfl⟩
        ·intro f w7 hG hp hl;simp only[OpGoal];go_simp;exact⟨_,rfl,Ext.refl _,rfl⟩
        ·intro f w7 hG hp hl;have hE:Ext w6 w7:=hG;have hS:=hE.size
         have q36:f 1= .int .i64 (mn:Int):=tellO hp 0 1 rfl rfl
         simp only[OpGoal];go_simp
         first
         |exact ⟨_,rfl,Ext.refl _,rfl⟩
         |exact ⟨_,rfl,Ext.refl _,congrArg (Value.int .i64) (Go.IntWalk.i64_in _ ⟨by omega,by omega⟩)⟩
        ·intro f w7 hG hp hl;simp only[OpGoal];go_simp;exact⟨_,rfl,Ext.refl _,rfl⟩
        ·intro f w7 hG hp hl;simp only[OpGoal];go_simp;exact⟨_,rfl,Ext.refl _,rfl⟩
        ·intro f w7 hG hp hl;have hE:Ext w6 w7:=hG;have hS:=hE.size
         have q39:f 4= .int .i64 (mn:Int):=tellO hp 0 4 rfl rfl
         simp only[OpGoal];go_simp
         first
         |exact ⟨_,rfl,Ext.refl _,rfl⟩
         |exact ⟨_,rfl,Ext.refl _,congrArg (Value.int .i64) (Go.IntWalk.i64_in _ ⟨by omega,by omega⟩)⟩
        ·intro f w7 hG hp hl
         have q38:f 3= .slice (some ⟨go,0,none⟩) mn capo:=tellO hp 0 3 rfl rfl
         have q40:f 5= .int .i64 (ln:Int):=tellO hp 1 5 rfl rfl
         simp only[OpGoal];go_simp;exact⟨_,rfl,Ext.refl _,rfl⟩
        ·intro f w7 hG hp hl
         have q41:f 6= .pointer (some ⟨go,ln*4,none⟩):=tellO hp 0 6 rfl rfl
         simp only[OpGoal];go_simp;exact⟨_,rfl,Ext.refl _,rfl⟩
        ·intro f w7 hG hp hl;have hE:Ext w6 w7:=hG
         have q42:f 7= .pointer (some ⟨go,ln*4+1,none⟩):=tellO hp 0 7 rfl rfl
         change OpGoal _ _ _ f w7 Ext _;exact og_loadAt (P:=Tryz.prog) _ _ go (ln*4+1) _ _ rfl rfl q42 (fun j v h=>HC3.out _ (E56.trans hE) j v h) Tryz.underlying41 rfl (by kernel_rfl) rfl
        ·intro f w7 hG hp hl;simp only[OpGoal];go_simp;exact⟨_,rfl,Ext.refl _,rfl⟩
        ·intro f w7 hG hp hl;have hE:Ext w6 w7:=hG
         have q44:f 9= .pointer (some ⟨wr.heap.size,1,none⟩):=tellO hp 0 9 rfl rfl
         have hbx:=b6.ext hE;have hcell0:=hbx.cell 0;have hcell1:=hbx.cell 1;have hcell2:=hbx.cell 2;have hcell3:=hbx.cell 3;simp only[OpGoal];go_simp;exact⟨_,rfl,Ext.refl _,rfl⟩
        ·intro f w7 hG hp hl;have hE:Ext w6 w7:=hG;have hS:=hE.size
         have q43:f 8= .agg #[.bool p0.1.b,.slice p0.1.a1 p0.1.n1 p0.1.c1,.slice p0.1.a2 p0.1.n2 p0.1.c2]:=tellO hp 0 8 rfl rfl
         have q45:f 10= .agg #[.bool b',.slice a1 n1 c1,.slice a2 n2 c2]:=tellO hp 1 10 rfl rfl
         change OpGoal _ _ _ f w7 Ext _;refine oC #[f 8,f 10] Tryz.func131 rfl rfl ?_;rw[q43,q45];refine(radd_calls _ _ r xq (i*(k+1)) k _ ((HR0.out.1.ext (E56.trans hE)).isR HR0.out.2 (by have:=HML.out;rw[LIM_eq];omega)) (HX.out.2.ext (E56.trans hE)) (by have:=HML.out;omega)).mono ?_;rintro e w' ⟨v',rfl,h1,h3,h2⟩;exact⟨v',rfl,h2,h1.mono hS,by have:=HML.out;omega⟩
        ·intro f w7 hG hp hl
         have q35:f 0= .slice (some ⟨go,0,none⟩) mn capo:=tellO hp 0 0 rfl rfl
         have q37:f 2= .int .i64 (ln:Int):=tellO hp 1 2 rfl rfl
         simp only[OpGoal];go_simp;exact⟨_,rfl,Ext.refl _,rfl⟩
        ·intro f w7 hG hp hl
         have q47:f 12= .pointer (some ⟨go,ln*4,none⟩):=tellO hp 0 12 rfl rfl
         simp only[OpGoal];go_simp;exact⟨_,rfl,Ext.refl _,rfl⟩
        ·intro f w7 hG hp hl;have hE:Ext w6 w7:=hG
         have q48:f 13= .pointer (some ⟨go,ln*4+1,none⟩):=tellO hp 0 13 rfl rfl
         have q46:=tellO hp 1 11 rfl rfl;exact og_stT (P:=Tryz.prog) w6.heap.size go 0 ln rest (tsP pso) d (r+xq) _ _ _ _ _ rfl rfl q48 rfl q46.1 q46.2 (by kernel_rfl) (HGO.out.2.2.2.2.ext (E56.trans hE)) p0.1 HPS.out.2.2.2.2.1 HPS.out.2.2.2.2.2 hgo6
       ·intro f w7 hC hF1 hmv hp;clear hp;have hTO:=to_store HPS.out.1 HPS.out.2.1 E56 hC ⟨_,(HGO.out.2.2.2.2.ext E56).2⟩ HPS.out.2.2.1 hF1 (show w3.heap.size≤w6.heap.size by have:=hE3.size;have:=E56.size;omega) HGO.out.1 (show i*(k+1)≤(i+1)*(k+1)by have:=HML.out;omega) (by have:=HGO.out.2.1;omega) HGO.out.2.2.1 (by have:=HGO.out.2.2.2.1;have:=HPS.out.2.2.2.1;omega);have E7:Ext w3 w7:=(hE3.trans E56).step hC HGO.out.1;rw[←HPS.out.2.2.2.1,HDX.out]at hTO;have hHJ:=HJ2.out;rw[HDX.out]at hHJ;have HNJ:=Lib.hid (hHJ.more HRIS.out HX.out.1 E7 hTO)
        have hmm2:(m0++ [(xc,r+xq)]).length=mn:=by rw[List.length_append,HPS.out.2.2.2.1,HPS.out.2.2.1];rfl
        have HM2:=Lib.hid hmm2;clear hF1 hmv hTO hHJ hmm2;go_wp2;go_roundw
        case rel=>exact ⟨i1,m0++ [(xc,r+xq)],some ⟨go,0,none⟩,capo,hi1n,rfl,by rw[HM2.out],Lib.hid (by have:=HNJ.out;rw[←HI1.out]at this;rw[HM2.out];exact this)⟩
        case measure=>have:=HI1.out;simp[intOf];omega
      |false=>
       have hdx:d≠xc:=by have:=HS.out;simpa using this.symm
       have HDX:=Lib.hid hdx;have hJ:=HJ2
       have hmm0:mn=m0.length+1:=by rw[HPS.out.2.2.2.1,HPS.out.2.2.1]
       clear hdx;obtain⟨pso,hpso,hlso,hfro⟩:=hJ.out.2.2.2.2.1.ps
       have hol:((tsP pso).map tmv).length=mn:=by
        have:=congrArg List.length hpso
        unfold lP at this;unfold tsP
        simp at this ⊢
        omega
       have HPSO:=Lib.hid hpso;have HO:=Lib.hid hlso;have HFO:=Lib.hid hfro;have HOL:=Lib.hid hol;obtain⟨gA,hgA,hgr,hgw⟩:=gT_spec hlso E56 b6
       have hgAl:gA<w6.heap.size:=by obtain⟨cs,h1⟩:=hgA;exact blk_lt h1
       have HGA:=Lib.hid hgA;have HGR:=Lib.hid hgr;have HGW:=Lib.hid hgw;clear hmm0 hpso hlso hfro hol hgA hgr hgw;have hwr:=hE3.size;have hw56:=E56.size;go_wp2_with fail
       refine wp_region_one gA 8 9 (fun v b=>ApT w3.heap.size w6.heap.size (mn) (xc) (xq) (tsP pso) (.slice (some ⟨go,0,none⟩) (mn) capo) v b) [PP.val (.slice (some ⟨go,0,none⟩) (mn) capo),PP.val (.pointer (some ⟨wr.heap.size,0,none⟩)),PP.val (.int .i64 xc),PP.val (.pointer (some ⟨wr.heap.size,1,none⟩)),PP.val (.agg #[.bool b',.slice a1 n1 c1,.slice a2 n2 c2]),PP.frQ xq,PP.frTm (xc) (xq),PP.oneT (xc) (xq),PP.any,PP.any] [(0,9,2)] [8,7,6,5,4,3,2,1,0] (by kernel_rfl) (by kernel_rfl) (fun f=>(by simp only[fillR,fillL,List.setIfInBounds_toArray,List.set_cons_succ,List.set_cons_zero,Nat.reduceAdd];rfl)) (by decide) (hgAl) (fun u w1 w2 h hp=>hp.ext h) (by intro p hp;simp only[List.mem_cons,List.not_mem_nil,or_false]at hp;rcases hp with rfl |rfl |rfl |rfl |rfl |rfl |rfl |rfl |rfl |rfl<;>rfl) (fun _ _=>trivial) ?_ ?_ (by decide)
       ·refine⟨?_,?_,?_,?_,?_,?_,?_,?_,?_,?_,trivial⟩
        ·intro f w7 hG hp hl
         have l2:f 9= .slice (some ⟨go,0,none⟩) (mn) capo:=hl.1 rfl
         simp only[OpGoal];go_simp;exact⟨_,rfl,Ext.refl _,rfl⟩
        ·intro f w7 hG hp hl;simp only[OpGoal];go_simp;exact⟨_,rfl,Ext.refl _,rfl⟩
        ·intro f w7 hG hp hl;have hE:Ext w6 w7:=hG
         have q50:f 1= .pointer (some ⟨wr.heap.size,0,none⟩):=tellO hp 0 1 rfl rfl
         have hcell:=(b6.ext hE).cell 0;simp only[OpGoal];go_simp;exact⟨_,rfl,Ext.refl _,rfl⟩
        ·intro f w7 hG hp hl;simp only[OpGoal];go_simp;exact⟨_,rfl,Ext.refl _,rfl⟩
        ·intro f w7 hG hp hl;have hE:Ext w6 w7:=hG
         have q52:f 3= .pointer (some ⟨wr.heap.size,1,none⟩):=tellO hp 0 3 rfl rfl
         have hbx:=b6.ext hE;have hcell0:=hbx.cell 0;have hcell1:=hbx.cell 1;have hcell2:=hbx.cell 2;have hcell3:=hbx.cell 3;simp only[OpGoal];go_simp;exact⟨_,rfl,Ext.refl _,rfl⟩
        ·intro f w7 hG hp hl;have hE:Ext w6 w7:=hG;have hS:=hE.size
         have q53:f 4= .agg #[.bool b',.slice a1 n1 c1,.slice a2 n2 c2]:=tellO hp 0 4 rfl rfl
         change OpGoal _ _ _ f w7 Ext _;refine oC #[f 4] Tryz.func141 rfl rfl ?_;rw[q53];refine(form_calls _ xq k _ (HX.out.2.ext (E56.trans hE)) (by omega)).mono ?_;rintro e w' ⟨v',rfl,h1,h2⟩;exact⟨v',rfl,h2,h1.mono hS⟩
        ·intro f w7 hG hp hl
         have q51:f 2= .int .i64 xc:=tellO hp 0 2 rfl rfl
         have q54:=tellO hp 1 5 rfl rfl;obtain⟨tb,ta1,tn1,tc1,ta2,tn2,tc2,tv,tq⟩:=FrQ.opn (q54);change OpGoal _ _ _ f w7 Ext _;simp only[OpGoal];go_simp;exact⟨_,rfl,Ext.refl _,⟨xc,tb,ta1,tn1,tc1,ta2,tn2,tc2⟩,rfl,rfl,tq⟩
        ·intro f w7 hG hp hl;have hE:Ext w6 w7:=hG;have hS:=hE.size;have q55:=tellO hp 0 6 rfl rfl;obtain⟨tt,tv,tc,tq⟩:=q55;change OpGoal _ _ _ f w7 Ext _;exact og_buildSlice (P:=Tryz.prog) 31 95 1 4 _ [tmv tt] rfl rfl Tryz.underlying31 (by kernel_rfl) (by kernel_rfl) (by simp only[Act.eval];exact congrArg (fun z=> [(0,z)]) tv) rfl (by omega) (by omega) (by omega) (strN_tmv [tt]).size (fun w' he hb=>⟨_,tt,hS,rfl,hb,tc,tq.ext he⟩)
        ·intro f w7 hG hp hl;have hE:Ext w6 w7:=hG;have hS:=hE.size
         have q49:f 0= .slice (some ⟨go,0,none⟩) (mn) capo:=tellO hp 0 0 rfl rfl
         have q56:=tellO hp 1 7 rfl rfl
         have qL:f 0= .slice (some ⟨go,0,none⟩) (mn) capo:=tellO hp 0 0 rfl rfl
         obtain⟨gx,tt,hgx,hvx,hbx,htc,htq⟩:=tellO hp 1 7 rfl rfl;change OpGoal _ _ _ f w7 (Chg gA) _
         refine og_append (P:=Tryz.prog) _ _ 31 rfl rfl w3.heap.size 95 4 64 Tryz.underlying31 (by kernel_rfl) (by kernel_rfl) (by omega) (.slice (some ⟨go,0,none⟩) (mn) capo) (mn) (flatS ((tsP pso).map tmv)) qL (by have:=(HO.out.ext (E56.trans hE)).2;rw[HOL.out]at this;exact this) ⟨gx,0,none⟩ 1 1 [.int .i64 tt.c,.bool tt.b,.slice tt.a1 tt.n1 tt.c1,.slice tt.a2 tt.n2 tt.c2] hvx rfl (fun j u hj=>by rw[addr_add,Nat.zero_add,hbx.cell];unfold tmv;simpa[Value.cells]using hj) (by intro u hu;simp at hu;rcases hu with rfl |rfl |rfl |rfl<;>rfl) (by omega) (by unfold maxLen;omega) (by omega) (by have:=hE.size;omega) (fun v' w' h1 h2 h3=>⟨HGR.out _ _ h2,ap_fin (by have:=HOL.out;rw[List.length_map]at this;exact this) h1 h3 hE.size htc (htq.chg (HGR.out _ _ h2) hgAl)⟩)
        ·intro f w7 hG hp hl;have hS:w6.heap.size≤w7.heap.size:=Chg.size hG;change OpGoal _ _ _ f w7 Ext _;simp only[OpGoal];go_simp;exact⟨_,rfl,Ext.refl _,rfl⟩
       ·intro f w7 hC hF1 hmv hp;clear hp;obtain⟨tt,go2,co,hv9,hls9,htc9,htq9,hgo9⟩:=id hF1;have hf9:=(hmv (by decide)).trans hv9;have hTO:=to_app HPSO.out HFO.out E56 hC HGA.out (hv9▸hF1) (show w3.heap.size≤w6.heap.size by omega) (show i*(k+1)≤(i+1)*(k+1)by have:=HML.out;omega) (show szQ xq≤(i+1)*(k+1)by have:=HX.out.2.sz;have:=HML.out;omega)
        have E7:Ext w3 w7:=(hE3.trans E56).step hC (by rcases HGW.out with⟨-,h⟩ |⟨-,h⟩<;>omega)
        have HNJ:=Lib.hid (hJ.out.new HRIS.out HX.out.1 (by omega) (hJ.out.ne HX.out.1 HDX.out) E7 hTO)
        have HLM:Hid (((m0++ [(d,r)])++ [(xc,xq)]).length=mn+1):=Lib.hid (by have:=HOL.out;have h0:=congrArg List.length HPSO.out;unfold tsP at this;unfold lP at h0;simp at this h0 ⊢ <;>omega)
        rw[hf9];clear hF1 hmv hv9 hls9 htc9 htq9 hgo9 hTO hf9;go_wp2;go_roundw
        case rel=>exact ⟨i1,(m0++ [(d,r)])++ [(xc,xq)],some ⟨go2,0,none⟩,co,hi1n,rfl,by first |rfl |rw [HLM.out],Lib.hid (by have:=HNJ.out;rw[←HI1.out]at this;rw[HLM.out];exact this)⟩
        case measure=>have:=HI1.out;simp[intOf];omega
end Go.Proofs.YtbmnlaepfckmkaaGreat
