/-
 Numbers as lists of places, the one of the least weight first. Plain: no program is named here.
-/
import Derived.KernelRfl
import Derived.WalkKit
import Derived.Lib.Hide
import Derived.Deep.QuietTactic
namespace Go.Proofs.YthoibjnkhkjnjaaGreat
set_option maxRecDepth 100000
set_option maxHeartbeats 1000000
set_option linter.unusedVariables false
set_option linter.unusedSimpArgs false
def val(B:Nat):List Nat→Nat
 | []=>0
 |x::l=>x+B*val B l
def Dig(B:Nat)(l:List Nat):Prop:=∀x∈l,x<B
def tz:List Nat→List Nat
 | []=> []
 |x::l=>match tz l with
  | []=>if x=0 then []else [x]
  |y::r=>x::y::r
def dgF(B:Nat):Nat→Nat→List Nat
 |0,_=> []
 |f+1,n=>if n=0 then []else n % B::dgF B f (n / B)
def dg(B n:Nat):List Nat:=dgF B n n
section
variable {B:Nat}
theorem Dig.nil:Dig B []:=fun _ h=>by cases h
theorem Dig.cons{x:Nat}{l:List Nat}(hx:x<B)(h:Dig B l):Dig B (x::l):=fun y hy=>by
 rcases List.mem_cons.1 hy with rfl |hy
 ·exact hx
 ·exact h y hy
theorem Dig.head{x:Nat}{l:List Nat}(h:Dig B (x::l)):x<B:=h x (List.mem_cons_self ..)
theorem Dig.tail{x:Nat}{l:List Nat}(h:Dig B (x::l)):Dig B l:=fun y hy=>h y (List.mem_cons_of_mem _ hy)
theorem Dig.take{l:List Nat}(h:Dig B l)(k:Nat):Dig B (l.take k):=fun y hy=>h y (List.mem_of_mem_take hy)
theorem Dig.drop{l:List Nat}(h:Dig B l)(k:Nat):Dig B (l.drop k):=fun y hy=>h y (List.mem_of_mem_drop hy)
theorem Dig.append{l m:List Nat}(h:Dig B l)(k:Dig B m):Dig B (l++m):=fun y hy=>by
 rcases List.mem_append.1 hy with h' |h'
 ·exact h y h'
 ·exact k y h'
theorem Dig.set{l:List Nat}(h:Dig B l){i y:Nat}(hy:y<B):Dig B (l.set i y):=fun z hz=>by
 rcases List.mem_or_eq_of_mem_set hz with h' |rfl
 ·exact h z h'
 ·exact hy
theorem Dig.get{l:List Nat}(h:Dig B l){i:Nat}(hi:i<l.length):l[i]<B:=h _ (List.getElem_mem hi)
theorem Dig.replicate(hB:0<B)(n:Nat):Dig B (List.replicate n 0):=fun y hy=>by
 rw[(List.mem_replicate.1 hy).2];exact hB
theorem val_append(l m:List Nat):val B (l++m)=val B l+B^l.length*val B m:=by
 induction l with
 |nil=>simp [val]
 |cons x l ih=>
  simp only[List.cons_append,val,ih,List.length_cons,Nat.pow_succ,Nat.mul_add]
  have:B*(B^l.length*val B m)=B^l.length*B*val B m:=by
   rw[←Nat.mul_assoc,Nat.mul_comm B]
  omega
theorem val_lt(hB:0<B){l:List Nat}(h:Dig B l):val B l<B^l.length:=by
 induction l with
 |nil=>simp [val]
 |cons x l ih=>
  have h1:=ih h.tail;have h2:=h.head;simp only[val,List.length_cons,Nat.pow_succ]
  have:B*val B l+B≤B^l.length*B:=by
   rw[Nat.mul_comm _ B,←Nat.mul_succ];exact Nat.mul_le_mul_left B h1
  omega
theorem val_singleton(x:Nat):val B [x]=x:=by simp[val]
theorem val_take_succ(l:List Nat)(i:Nat)(h:i<l.length):val B (l.take (i+1))=val B (l.take i)+B^i*l[i]:=by
 rw[List.take_succ_eq_append_getElem h,val_append,val_singleton,List.length_take,Nat.min_eq_left (by omega)]
theorem val_drop(l:List Nat)(i:Nat)(h:i<l.length):val B (l.drop i)=l[i]+B*val B (l.drop (i+1)):=by
 rw[List.drop_eq_getElem_cons h,val]
theorem val_split(l:List Nat)(i:Nat)(h:i≤l.length):val B l=val B (l.take i)+B^i*val B (l.drop i):=by
 have:=val_append (B:=B) (l.take i) (l.drop i)
 rw[List.take_append_drop,List.length_take,Nat.min_eq_left h]at this;exact this
theorem val_set(l:List Nat)(i y:Nat)(h:i<l.length):val B (l.set i y)+l[i]*B^i=val B l+y*B^i:=by
 induction l generalizing i with
 |nil=>simp at h
 |cons x l ih=>
  cases i with
  |zero=>simp [val];omega
  |succ i=>
   have:=ih i (by simpa using h)
   simp only[List.set_cons_succ,val,List.getElem_cons_succ,Nat.pow_succ]
   have e1:l[i]'(by simpa using h)*(B^i*B)=B*(l[i]'(by simpa using h)*B^i):=by
    rw[←Nat.mul_assoc,Nat.mul_comm]
   have e2:y*(B^i*B)=B*(y*B^i):=by
    rw[←Nat.mul_assoc,Nat.mul_comm]
   rw[e1,e2]
   have:=congrArg (B* ·) this
   simp only[Nat.mul_add]at this
   omega
theorem val_replicate(n:Nat):val B (List.replicate n 0)=0:=by
 induction n with
 |zero=>rfl
 |succ n ih=>simp [List.replicate_succ,val,ih]
theorem val_append_zeros(l:List Nat)(n:Nat):val B (l++List.replicate n 0)=val B l:=by
 rw[val_append,val_replicate];simp
theorem val_zeros_append(l:List Nat)(n:Nat):val B (List.replicate n 0++l)=B^n*val B l:=by
 rw[val_append,val_replicate];simp
theorem tz_snoc_zero(l:List Nat):tz (l++ [0])=tz l:=by
 induction l with
 |nil=>rfl
 |cons x l ih=>simp only[List.cons_append,tz,ih]
theorem tz_snoc(l:List Nat)(x:Nat)(h:x≠0):tz (l++ [x])=l++ [x]:=by
 induction l with
 |nil=>simp [tz,h]
 |cons y l ih=>
  simp only[List.cons_append,tz,ih]
  cases l<;>simp
theorem tz_length_le(l:List Nat):(tz l).length≤l.length:=by
 induction l with
 |nil=>simp [tz]
 |cons x l ih=>
  simp only[tz]
  split
  ·split<;>simp
  ·rename_i y r h
   rw[h]at ih
   simpa using ih
theorem tz_append_zeros(l:List Nat):∃n,l=tz l++List.replicate n 0:=by
 induction l with
 |nil=>exact ⟨0,rfl⟩
 |cons x l ih=>
  obtain⟨n,hn⟩:=ih;simp only[tz]
  split
  ·rename_i h
   rw[h]at hn
   split
   ·rename_i hx
    exact⟨n+1,by rw[hx,List.replicate_succ,List.nil_append];rw[List.nil_append]at hn;rw[←hn]⟩
   ·exact⟨n,by rw[List.nil_append]at hn;rw[List.singleton_append,←hn]⟩
  ·rename_i y r h
   rw[h]at hn;exact⟨n,by simp[hn]⟩
theorem tz_take(l:List Nat):l.take (tz l).length=tz l:=by
 obtain⟨n,hn⟩:=tz_append_zeros l
 have:(tz l++List.replicate n 0).take (tz l).length=tz l:=List.take_left
 rw[←hn]at this;exact this
theorem val_tz(l:List Nat):val B (tz l)=val B l:=by
 obtain⟨n,hn⟩:=tz_append_zeros l
 have h:val B l=val B (tz l++List.replicate n 0):=congrArg _ hn
 rw[h,val_append_zeros]
theorem Dig.tz{l:List Nat}(h:Dig B l):Dig B (tz l):=by
 rw[←tz_take];exact h.take _
theorem tz_idem(l:List Nat):tz (tz l)=tz l:=by
 induction l with
 |nil=>rfl
 |cons x l ih=>
  simp only[tz]
  split
  ·split
   ·rfl
   ·rename_i h;simp[tz,h]
  ·rename_i y r h
   rw[h]at ih;simp only[tz]at ih ⊢;rw[ih]
def Can(B:Nat)(l:List Nat):Prop:=Dig B l∧tz l=l
theorem Can.tail{x:Nat}{l:List Nat}(h:Can B (x::l)):Can B l:=by
 refine⟨h.1.tail,?_⟩
 have:=h.2
 simp only[tz]at this
 split at this
 ·rename_i hl
  split at this
  ·cases this
  ·simp only[List.cons.injEq,true_and]at this;rw[←this];rfl
 ·rename_i y r hl
  simp only[List.cons.injEq,true_and]at this;rw[hl,this]
theorem Can.val_pos{x:Nat}{l:List Nat}(h:Can B (x::l)):0<val B (x::l):=by
 induction l generalizing x with
 |nil=>
  have:=h.2
  simp only[tz]at this
  split at this
  ·cases this
  ·simp[val];omega
 |cons y l ih=>
  have h2:=ih h.tail
  have hB:0<B:=by have:=h.1.head;omega
  have:0<B*val B (y::l):=Nat.mul_pos hB h2
  rw[val]
  omega
theorem Can.uniq{l m:List Nat}(hl:Can B l)(hm:Can B m)(h:val B l=val B m):l=m:=by
 induction l generalizing m with
 |nil=>
  cases m with
  |nil=>rfl
  |cons y m=>have:=hm.val_pos;rw[←h]at this;simp[val]at this
 |cons x l ih=>
  cases m with
  |nil=>have:=hl.val_pos;rw[h]at this;simp[val]at this
  |cons y m=>
   have hx:=hl.1.head;have hy:=hm.1.head;simp only[val]at h
   have h1:(x+B*val B l) % B=x:=by rw[Nat.add_mul_mod_self_left];exact Nat.mod_eq_of_lt hx
   have h2:(y+B*val B m) % B=y:=by rw[Nat.add_mul_mod_self_left];exact Nat.mod_eq_of_lt hy
   have hxy:x=y:=by rw[←h1,←h2,h]
   subst hxy
   have h3:B*val B l=B*val B m:=by omega
   have h4:=Nat.eq_of_mul_eq_mul_left (show 0<B by omega) h3;rw[ih hl.tail hm.tail h4]
theorem can_tz{l:List Nat}(h:Dig B l):Can B (tz l):=⟨h.tz,tz_idem l⟩
theorem dgF_spec(hB:1<B):∀f n,n≤f→Can B (dgF B f n)∧val B (dgF B f n)=n:=by
 intro f
 induction f with
 |zero=>
  intro n h
  have:n=0:=by omega
  subst this;exact⟨⟨Dig.nil,rfl⟩,rfl⟩
 |succ f ih=>
  intro n h;simp only[dgF]
  split
  ·subst_vars
   exact⟨⟨Dig.nil,rfl⟩,rfl⟩
  ·rename_i hn
   have hlt:n / B<n:=Nat.div_lt_self (by omega) hB;obtain⟨⟨h1,h2⟩,h3⟩:=ih (n / B) (by omega);refine⟨⟨Dig.cons (Nat.mod_lt _ (by omega)) h1,?_⟩,?_⟩
   ·simp only[tz,h2]
    split
    ·rename_i he
     rw[he]at h3;simp only[val]at h3
     have hne:¬n % B=0:=by
      have:=Nat.mod_add_div n B
      rw[←h3,Nat.mul_zero,Nat.add_zero]at this
      omega
     rw[if_neg hne,he]
    ·rename_i he;rw[he]
   ·rw[val,h3,Nat.mod_add_div]
theorem dg_can(hB:1<B)(n:Nat):Can B (dg B n):=(dgF_spec hB n n (Nat.le_refl _)).1
theorem dg_val(hB:1<B)(n:Nat):val B (dg B n)=n:=(dgF_spec hB n n (Nat.le_refl _)).2
theorem Can.eq_dg(hB:1<B){l:List Nat}(h:Can B l):l=dg B (val B l):=h.uniq (dg_can hB _) (dg_val hB _).symm
theorem tz_eq_dg(hB:1<B){l:List Nat}(h:Dig B l):tz l=dg B (val B l):=by
 rw[(can_tz h).eq_dg hB,val_tz]
theorem dg_inj(hB:1<B){n m:Nat}(h:dg B n=dg B m):n=m:=by
 rw[←dg_val hB n,←dg_val hB m,h]
theorem dg_zero:dg B 0=[]:=rfl
theorem dg_eq_nil(hB:1<B){n:Nat}:dg B n=[]↔n=0:=by
 constructor
 ·intro h;rw[←dg_val hB n,h];rfl
 ·rintro rfl;rfl
theorem dg_small(hB:1<B){n:Nat}(h0:n≠0)(h:n<B):dg B n=[n]:=by
 have hc:Can B [n]:=⟨Dig.cons h Dig.nil,by simp[tz,h0]⟩
 have:=hc.eq_dg hB
 rw[val_singleton]at this;exact this.symm
theorem dg_cons(hB:1<B){n:Nat}(h0:n≠0):dg B n=n % B::dg B (n / B):=by
 have hc:Can B (n % B::dg B (n / B)):=by
  obtain⟨h1,h2⟩:=dg_can hB (n / B);refine⟨Dig.cons (Nat.mod_lt _ (by omega)) h1,?_⟩;simp only[tz,h2]
  split
  ·rename_i he
   have h3:=(dg_eq_nil hB).1 he
   have hne:¬n % B=0:=by
    have:=Nat.mod_add_div n B
    rw[h3,Nat.mul_zero,Nat.add_zero]at this
    omega
   rw[if_neg hne,he]
  ·rename_i he;rw[he]
 have:=hc.eq_dg hB
 rw[val,dg_val hB,Nat.mod_add_div]at this;exact this.symm
theorem Can.pow_le{x:Nat}{l:List Nat}(h:Can B (x::l)):B^l.length≤val B (x::l):=by
 induction l generalizing x with
 |nil=>have:=h.val_pos;simp only[List.length_nil,Nat.pow_zero];omega
 |cons y l ih=>
  have:=ih h.tail
  rw[val,List.length_cons,Nat.pow_succ];have h2:=Nat.mul_le_mul_left B this;rw[Nat.mul_comm]at h2
  omega
theorem dg_len_lt(hB:1<B)(n:Nat):n<B^(dg B n).length:=by
 have:=val_lt (by omega) (dg_can hB n).1
 rwa [dg_val hB]at this
theorem dg_len_le(hB:1<B){n k:Nat}(h:n<B^k):(dg B n).length≤k:=by
 rcases hl:dg B n with _ |⟨x,l⟩
 ·simp
 ·have hc:Can B (x::l):=hl▸dg_can hB n;have h1:=hc.pow_le;rw[←hl,dg_val hB]at h1;have h2:B^l.length<B^k:=Nat.lt_of_le_of_lt h1 h
  have:=(Nat.pow_lt_pow_iff_right hB).1 h2
  simp only[List.length_cons]
  omega
theorem dg_len_mono(hB:1<B){n m:Nat}(h:n≤m):(dg B n).length≤(dg B m).length:=
 dg_len_le hB (Nat.lt_of_le_of_lt h (dg_len_lt hB m))
theorem dg_len_mul(hB:1<B)(n m:Nat):(dg B (n*m)).length≤(dg B n).length+(dg B m).length:=by
 refine dg_len_le hB ?_;rw[Nat.pow_add];exact Nat.mul_lt_mul'' (dg_len_lt hB n) (dg_len_lt hB m)
theorem dg_len_add(hB:1<B)(n m:Nat):(dg B (n+m)).length≤max (dg B n).length (dg B m).length+1:=by
 refine dg_len_le hB ?_;have h1:=Nat.lt_of_lt_of_le (dg_len_lt hB n) (Nat.pow_le_pow_right (by omega) (Nat.le_max_left _ (dg B m).length));have h2:=Nat.lt_of_lt_of_le (dg_len_lt hB m) (Nat.pow_le_pow_right (by omega) (Nat.le_max_right (dg B n).length _));rw[Nat.pow_succ];have h3:=Nat.mul_le_mul_left (B^max (dg B n).length (dg B m).length) hB
 omega
theorem dg_len_val(hB:1<B){l:List Nat}(h:Dig B l):(dg B (val B l)).length≤l.length:=dg_len_le hB (val_lt (by omega) h)
end
open Go.RowKit
def Ext(w w':World):Prop:=w.grownBy w' none
def Chg(g:Nat)(w w':World):Prop:=w.grownBy w' (some g)
theorem Ext.refl(w:World):Ext w w:=⟨rfl,rfl,rfl,Nat.le_refl _,fun _ _ _=>rfl⟩
theorem Ext.size{w w':World}(h:Ext w w'):w.heap.size≤w'.heap.size:=World.grownBy.size h
theorem Ext.heap{w w':World}(h:Ext w w'){k:Nat}(hk:k<w.heap.size):w'.heap[k]? =w.heap[k]? :=World.grownBy.block h k hk (by simp)
theorem Ext.trans{a b c:World}(h:Ext a b)(k:Ext b c):Ext a c:=
 ⟨(World.grownBy.os k).trans (World.grownBy.os h),(World.grownBy.tape k).trans (World.grownBy.tape h),(World.grownBy.output k).trans (World.grownBy.output h),Nat.le_trans h.size k.size,fun i hi _=>(k.heap (Nat.lt_of_lt_of_le hi h.size)).trans (h.heap hi)⟩
theorem Ext.drew{a w:World}(h:Ext a w):Ext a w.drew:=h.trans ⟨rfl,rfl,rfl,Nat.le_refl _,fun _ _ _=>rfl⟩
theorem Ext.drews{a w:World}(h:Ext a w)(n:Nat):Ext a (w.drewN n):=h.trans ⟨rfl,rfl,rfl,Nat.le_refl _,fun _ _ _=>rfl⟩
theorem Ext.alloc{a w:World}(h:Ext a w)(o:Obj):Ext a (w.alloc o):=
 h.trans ⟨rfl,rfl,rfl,by simp,fun k hk _=>Below.heap_alloc _ _ _ hk⟩
theorem Ext.setCell{a w:World}(h:Ext a w){p:Addr}(hp:a.heap.size≤p.block)(u:Value):Ext a (w.setCell p u):=
 ⟨(show(w.setCell p u).os=w.os from rfl).trans (World.grownBy.os (w:=a) (w':=w) h),(show(w.setCell p u).tape=w.tape from rfl).trans (World.grownBy.tape (w:=a) (w':=w) h),(show(w.setCell p u).output=w.output from rfl).trans (World.grownBy.output (w:=a) (w':=w) h),by have:=h.size;simpa[World.setCell]using this,fun k hk _=>by rw[Below.heap_setCell _ _ _ _ (by omega)];exact h.heap hk⟩
theorem Chg.size{g:Nat}{w w':World}(h:Chg g w w'):w.heap.size≤w'.heap.size:=World.grownBy.size h
theorem Chg.heap{g:Nat}{w w':World}(h:Chg g w w'){k:Nat}(hk:k<w.heap.size)(hne:k≠g):w'.heap[k]? =w.heap[k]? :=World.grownBy.block h k hk (by simpa using hne)
theorem Chg.refl(g:Nat)(w:World):Chg g w w:=⟨rfl,rfl,rfl,Nat.le_refl _,fun _ _ _=>rfl⟩
theorem Chg.trans{g:Nat}{a b c:World}(h:Chg g a b)(k:Chg g b c):Chg g a c:=
 ⟨(World.grownBy.os k).trans (World.grownBy.os h),(World.grownBy.tape k).trans (World.grownBy.tape h),(World.grownBy.output k).trans (World.grownBy.output h),Nat.le_trans h.size k.size,fun i hi hne=>(World.grownBy.block k i (Nat.lt_of_lt_of_le hi h.size) hne).trans (World.grownBy.block h i hi hne)⟩
theorem Ext.chg(g:Nat){w w':World}(h:Ext w w'):Chg g w w':=⟨World.grownBy.os h,World.grownBy.tape h,World.grownBy.output h,h.size,fun _ hk _=>h.heap hk⟩
theorem Chg.setCell(w:World)(g i:Nat)(u:Value):Chg g w (w.setCell ⟨g,i,none⟩ u):=
 ⟨rfl,rfl,rfl,by simp[World.setCell],fun k _ hne=>Below.heap_setCell _ _ _ _ (by simpa using hne)⟩
theorem Ext.step{a w w':World}{g:Nat}(h:Ext a w)(k:Chg g w w')(hg:a.heap.size≤g):Ext a w':=
 ⟨(World.grownBy.os k).trans (World.grownBy.os h),(World.grownBy.tape k).trans (World.grownBy.tape h),(World.grownBy.output k).trans (World.grownBy.output h),Nat.le_trans h.size k.size,fun i hi _=>(k.heap (Nat.lt_of_lt_of_le hi h.size) (by omega)).trans (h.heap hi)⟩
theorem Ext.below{w w':World}(h:Ext w w'):Below w.heap.size w w':=⟨World.grownBy.os h,World.grownBy.tape h,World.grownBy.output h,h.size,fun _ hk=>h.heap hk⟩
theorem Ext.cell{w w':World}(h:Ext w w'){a:Addr}{v:Value}(hv:w.cell? a=some v):w'.cell? a=some v:=
 (World.cell?_of_block (h.heap (World.block_lt_of_cell? w a hv))).trans hv
theorem Ext.blk{w w':World}(h:Ext w w'){g:Nat}{o:Obj}(hv:w.heap[g]? =some o):w'.heap[g]? =some o:=
 (h.heap (Array.getElem?_eq_some_iff.1 hv).1).trans hv
theorem Chg.blk{g0:Nat}{w w':World}(h:Chg g0 w w'){g:Nat}{o:Obj}(hv:w.heap[g]? =some o)(hne:g≠g0):w'.heap[g]? =some o:=
 (h.heap (Array.getElem?_eq_some_iff.1 hv).1 hne).trans hv
theorem blk_lt{w:World}{g:Nat}{o:Obj}(hv:w.heap[g]? =some o):g<w.heap.size:=(Array.getElem?_eq_some_iff.1 hv).1
theorem Ext.frozen{w w':World}(h:Ext w w'):∀b o,b<w.heap.size→w'.frozen? ⟨b,o,none⟩=w.frozen? ⟨b,o,none⟩:=fun b o hb=>World.frozen?_of_block (w:=w) (h.heap (k:=b) hb)
def Rd(w:World)(ad:Option Addr)(xs:List Value):Prop:=
 xs=[]∨∃b off,ad=some ⟨b,off,none⟩∧∀i v,xs[i]? =some v→w.cell? ⟨b,off+i,none⟩=some v
theorem Rd.ext{w w':World}{ad:Option Addr}{xs:List Value}(h:Rd w ad xs)(he:Ext w w'):Rd w' ad xs:=by
 rcases h with h |⟨b,off,h1,h2⟩
 ·exact .inl h
 ·exact .inr ⟨b,off,h1,fun i v hi=>he.cell (h2 i v hi)⟩
theorem Rd.nil(w:World)(ad:Option Addr):Rd w ad []:= .inl rfl
theorem Rd.at{w:World}{ad:Option Addr}{xs:List Value}(h:Rd w ad xs)(hne:0<xs.length):∃b off,ad=some ⟨b,off,none⟩∧∀i v,xs[i]? =some v→w.cell? ⟨b,off+i,none⟩=some v:=by
 rcases h with h |h
 ·subst h;simp at hne
 ·exact h
theorem Rd.take{w:World}{ad:Option Addr}{xs:List Value}(h:Rd w ad xs)(n:Nat):Rd w ad (xs.take n):=by
 rcases h with h |⟨b,off,h1,h2⟩
 ·exact .inl (by simp[h])
 ·exact .inr ⟨b,off,h1,fun i v hi=>h2 i v (by rw[List.getElem?_take]at hi;split at hi;exact hi;cases hi)⟩
theorem Rd.drop{w:World}{b off:Nat}{xs:List Value}(h:∀i v,xs[i]? =some v→w.cell? ⟨b,off+i,none⟩=some v)(n:Nat):Rd w (some ⟨b,off+n,none⟩) (xs.drop n):=
 .inr ⟨b,off+n,rfl,fun i v hi=>by rw[List.getElem?_drop]at hi;have:=h _ _ hi;rwa [←Nat.add_assoc]at this⟩
theorem Rd.cut{w:World}{ad:Option Addr}{xs:List Value}(h:Rd w ad xs)(m cap:Nat)(hc:xs.length≤cap):Rd w (if cap=m then ad else Option.map (fun(x:Addr)=>x.add m) ad) (xs.drop m):=by
 rcases h with h |⟨b,off,h1,h2⟩
 ·subst h;exact .inl (by simp)
 ·by_cases hcm:cap=m
  ·exact .inl (List.drop_eq_nil_of_le (by omega))
  ·rw[if_neg hcm,h1]
   have e:(⟨b,off,none⟩:Addr).add m=⟨b,off+m,none⟩:=by
    unfold Addr.add;split<;>simp_all
   simp only[Option.map_some,e];exact Rd.drop h2 m
theorem Rd.addr{w w':World}{ad:Option Addr}{xs:List Value}(h:Rd w ad xs)(a:Addr)(ha:ad=some a)(he:Ext w w'):∀j u,xs[j]? =some u→w'.cell? (a.add j)=some u:=by
 intro j u hj
 rcases h with h |⟨b,off,h1,h2⟩
 ·subst h;simp at hj
 ·rw[ha]at h1
  cases h1
  have:=he.cell (h2 j u hj)
  unfold Addr.add
  split
  ·subst_vars;exact this
  ·exact this
def Own(e:TypeId)(B:Nat)(w:World)(ad:Option Addr)(cap:Nat)(xs:List Value):Prop:=
 (xs=[]∧cap=0∧ad=none)∨∃g cur,ad=some ⟨g,0,none⟩∧B≤g∧w.heap[g]? =some (.cells cur e (0,0))∧cur.size=cap∧cur.toList.take xs.length=xs
theorem Own.rd{e:TypeId}{B:Nat}{w:World}{ad:Option Addr}{cap:Nat}{xs:List Value}(h:Own e B w ad cap xs):Rd w ad xs:=by
 rcases h with⟨h,_⟩ |⟨g,cur,h1,_,h3,_,h5⟩
 ·exact .inl h
 ·refine .inr ⟨g,0,h1,fun i v hi=> ?_⟩;rw[Nat.zero_add,cell_of_row w g i cur e _ h3];rw[←h5,List.getElem?_take]at hi
  split at hi
  ·simpa using hi
  ·cases hi
theorem Own.ext{e:TypeId}{B:Nat}{w w':World}{ad:Option Addr}{cap:Nat}{xs:List Value}(h:Own e B w ad cap xs)(he:Ext w w'):Own e B w' ad cap xs:=by
 rcases h with h |⟨g,cur,h1,h2,h3,h4⟩
 ·exact .inl h
 ·exact .inr ⟨g,cur,h1,h2,he.blk h3,h4⟩
theorem Own.mono{e:TypeId}{B B':Nat}{w:World}{ad:Option Addr}{cap:Nat}{xs:List Value}(h:Own e B w ad cap xs)(hB:B'≤B):Own e B' w ad cap xs:=by
 rcases h with h |⟨g,cur,h1,h2,h3⟩
 ·exact .inl h
 ·exact .inr ⟨g,cur,h1,Nat.le_trans hB h2,h3⟩
theorem Own.take{e:TypeId}{B:Nat}{w:World}{ad:Option Addr}{cap:Nat}{xs:List Value}(h:Own e B w ad cap xs)(n:Nat):Own e B w ad cap (xs.take n):=by
 rcases h with⟨h,h'⟩ |⟨g,cur,h1,h2,h3,h4,h5⟩
 ·exact .inl ⟨by simp[h],h'⟩
 ·refine .inr ⟨g,cur,h1,h2,h3,h4,?_⟩
  have:xs.take n=(cur.toList.take xs.length).take n:=by rw[h5]
  rw[this,List.take_take,List.length_take]
  have hl:xs.length≤cur.toList.length:=by
   have:=congrArg List.length h5
   rw[List.length_take]at this
   omega
  congr 1
  omega
theorem Own.chg{e:TypeId}{B:Nat}{w w':World}{ad:Option Addr}{cap:Nat}{xs:List Value}{g:Nat}(h:Own e B w ad cap xs)(he:Chg g w w')(hg:g<B):Own e B w' ad cap xs:=by
 rcases h with h |⟨g',cur,h1,h2,h3,h4⟩
 ·exact .inl h
 ·exact .inr ⟨g',cur,h1,h2,he.blk h3 (by omega),h4⟩
def LIM:Nat:=1099511627776
def BIG:Nat:=8796093022208
theorem BIG_eq:BIG=8796093022208:=rfl
theorem LIM_eq:LIM=1099511627776:=rfl
def W:Nat:=18446744073709551616
theorem W_eq:W=18446744073709551616:=rfl
theorem W_gt:1<W:=by rw[W_eq];omega
def vals(k:IntKind)(xs:List Nat):List Value:=xs.map fun(x:Nat)=>Value.int k (x:Int)
theorem vals_length(k:IntKind)(xs:List Nat):(vals k xs).length=xs.length:=by simp[vals]
theorem vals_get(k:IntKind)(xs:List Nat)(i:Nat)(h:i<xs.length):(vals k xs)[i]? =some (.int k (xs[i]:Int)):=by simp[vals,h]
theorem vals_take(k:IntKind)(xs:List Nat)(n:Nat):vals k (xs.take n)=(vals k xs).take n:=by simp[vals,List.map_take]
theorem vals_drop(k:IntKind)(xs:List Nat)(n:Nat):vals k (xs.drop n)=(vals k xs).drop n:=by simp[vals,List.map_drop]
theorem vals_append(k:IntKind)(xs ys:List Nat):vals k (xs++ys)=vals k xs++vals k ys:=by simp[vals]
theorem vals_set(k:IntKind)(xs:List Nat)(i y:Nat):(vals k xs).set i (.int k (y:Int))=vals k (xs.set i y):=by simp[vals,List.map_set]
theorem vals_nil{k:IntKind}{xs:List Nat}:vals k xs=[]↔xs=[]:=by simp[vals]
def IsL(k:IntKind)(w:World)(v:Value)(xs:List Nat):Prop:=
 ∃ad cap,v= .slice ad xs.length cap∧xs.length≤cap∧cap≤9223372036854775807∧Rd w ad (vals k xs)
def IsN(k:IntKind)(B:Nat)(w:World)(v:Value)(n:Nat):Prop:=∃xs,IsL k w v xs∧xs.length≤LIM∧Dig B xs∧val B xs=n
def FrL(e:TypeId)(k:IntKind)(B0:Nat)(w:World)(v:Value)(xs:List Nat):Prop:=
 ∃ad cap,v= .slice ad xs.length cap∧xs.length≤cap∧cap≤9223372036854775807∧Own e B0 w ad cap (vals k xs)
theorem IsL.ext{k:IntKind}{w w':World}{v:Value}{xs:List Nat}(h:IsL k w v xs)(he:Ext w w'):IsL k w' v xs:=by
 obtain⟨ad,cap,h1,h2,h3,h4⟩:=h;exact⟨ad,cap,h1,h2,h3,h4.ext he⟩
theorem IsN.ext{k:IntKind}{B:Nat}{w w':World}{v:Value}{n:Nat}(h:IsN k B w v n)(he:Ext w w'):IsN k B w' v n:=by
 obtain⟨xs,h1,h2⟩:=h;exact⟨xs,h1.ext he,h2⟩
theorem FrL.isL{e:TypeId}{k:IntKind}{B0:Nat}{w:World}{v:Value}{xs:List Nat}(h:FrL e k B0 w v xs):IsL k w v xs:=by
 obtain⟨ad,cap,h1,h2,h3,h4⟩:=h;exact⟨ad,cap,h1,h2,h3,h4.rd⟩
theorem FrL.ext{e:TypeId}{k:IntKind}{B0:Nat}{w w':World}{v:Value}{xs:List Nat}(h:FrL e k B0 w v xs)(he:Ext w w'):FrL e k B0 w' v xs:=by
 obtain⟨ad,cap,h1,h2,h3,h4⟩:=h;exact⟨ad,cap,h1,h2,h3,h4.ext he⟩
theorem FrL.mono{e:TypeId}{k:IntKind}{B0 B1:Nat}{w:World}{v:Value}{xs:List Nat}(h:FrL e k B0 w v xs)(hB:B1≤B0):FrL e k B1 w v xs:=by
 obtain⟨ad,cap,h1,h2,h3,h4⟩:=h;exact⟨ad,cap,h1,h2,h3,h4.mono hB⟩
theorem FrL.chg{e:TypeId}{k:IntKind}{B0 g:Nat}{w w':World}{v:Value}{xs:List Nat}(h:FrL e k B0 w v xs)(he:Chg g w w')(hg:g<B0):FrL e k B0 w' v xs:=by
 obtain⟨ad,cap,h1,h2,h3,h4⟩:=h;exact⟨ad,cap,h1,h2,h3,h4.chg he hg⟩
def FrN(e:TypeId)(k:IntKind)(B:Nat)(B0:Nat)(w:World)(v:Value)(n:Nat):Prop:=FrL e k B0 w v (dg B n)
def IsC(k:IntKind)(B:Nat)(w:World)(v:Value)(n:Nat):Prop:=IsL k w v (dg B n)
def sz(B n:Nat):Nat:=(dg B n).length
theorem IsC.isN{k:IntKind}{B:Nat}(hB:1<B){w:World}{v:Value}{n:Nat}(h:IsC k B w v n)(hs:sz B n≤LIM):IsN k B w v n:=
 ⟨dg B n,h,hs,(dg_can hB n).1,dg_val hB n⟩
theorem FrN.isC{e:TypeId}{k:IntKind}{B B0:Nat}{w:World}{v:Value}{n:Nat}(h:FrN e k B B0 w v n):IsC k B w v n:=FrL.isL h
theorem IsC.ext{k:IntKind}{B:Nat}{w w':World}{v:Value}{n:Nat}(h:IsC k B w v n)(he:Ext w w'):IsC k B w' v n:=IsL.ext h he
theorem FrN.ext{e:TypeId}{k:IntKind}{B B0:Nat}{w w':World}{v:Value}{n:Nat}(h:FrN e k B B0 w v n)(he:Ext w w'):FrN e k B B0 w' v n:=FrL.ext h he
theorem FrN.mono{e:TypeId}{k:IntKind}{B B0 B1:Nat}{w:World}{v:Value}{n:Nat}(h:FrN e k B B0 w v n)(hB:B1≤B0):FrN e k B B1 w v n:=FrL.mono h hB
theorem FrN.chg{e:TypeId}{k:IntKind}{B B0 g:Nat}{w w':World}{v:Value}{n:Nat}(h:FrN e k B B0 w v n)(he:Chg g w w')(hg:g<B0):FrN e k B B0 w' v n:=FrL.chg h he hg
theorem own_of_row{w:World}{B:Nat}{e:TypeId}{v:Value}{n:Nat}{xs:List Value}(h:w.ownsRow B e 1 v n xs):∃ad cap,v= .slice ad xs.length cap∧xs.length≤cap∧cap≤9223372036854775807∧Own e B w ad cap xs:=by
 obtain⟨h1,h2⟩:=h;rw[Nat.mul_one]at h1 h2
 rcases h2 with⟨rfl,rfl⟩ |⟨g,cap,cur,rfl,hg,hh,hn,hm,hs,ht⟩
 ·have:xs=[]:=List.eq_nil_of_length_eq_zero h1
  subst this;exact⟨none,0,rfl,Nat.le_refl _,by omega,.inl ⟨rfl,rfl,rfl⟩⟩
 ·subst h1;exact⟨_,cap,rfl,hn,by simpa[maxLen]using hm,.inr ⟨g,cur,rfl,hg,hh,by omega,ht⟩⟩
theorem own_frl{w:World}{B:Nat}{e:TypeId}{k:IntKind}{v:Value}{n:Nat}{xs:List Nat}(h:w.ownsRow B e 1 v n (vals k xs)):FrL e k B w v xs:=by
 obtain⟨ad,cap,h1,h2,h3,h4⟩:=own_of_row h;rw[vals_length]at h1 h2;exact⟨ad,cap,h1,h2,h3,h4⟩
def BlkAt(e:TypeId)(k:IntKind)(w:World)(g:Nat)(xs:List Nat)(rest:List Value):Prop:=w.heap[g]? =some (.cells (vals k xs++rest).toArray e (0,0))
section
variable {w:World} {g:Nat} {k:IntKind} {xs:List Nat} {rest:List Value} {e:TypeId}
theorem BlkAt.cell(h:BlkAt e k w g xs rest)(i:Nat)(hi:i<xs.length):w.cell? ⟨g,i,none⟩=some (.int k (xs[i]:Int)):=by
 rw[cell_of_row w g i _ e _ h]
 have:=vals_get k xs i hi
 rw[List.getElem?_toArray,List.getElem?_append_left (by rw[vals_length];exact hi),this]
theorem BlkAt.got(h:BlkAt e k w g xs rest)(i:Nat)(hi:i<xs.length):∃u,w.cell? ⟨g,i,none⟩=some u:=⟨_,h.cell i hi⟩
theorem BlkAt.free(h:BlkAt e k w g xs rest)(i:Nat):w.frozen? ⟨g,i,none⟩=false:=frozen_of_row w g i _ e h
theorem BlkAt.set(h:BlkAt e k w g xs rest)(i y:Nat)(hi:i<xs.length):BlkAt e k (w.setCell ⟨g,i,none⟩ (.int k (y:Int))) g (xs.set i y) rest:=by
 unfold BlkAt;rw[heap_setCell_same w g i _ e _ h]
 congr 2
 rw[←vals_set]
 simp[List.set_append,vals_length,hi]
theorem BlkAt.lt(h:BlkAt e k w g xs rest):g<w.heap.size:=blk_lt h
theorem BlkAt.ext{w':World}(h:BlkAt e k w g xs rest)(he:Ext w w'):BlkAt e k w' g xs rest:=he.blk h
theorem BlkAt.chg{w':World}{g0:Nat}(h:BlkAt e k w g xs rest)(he:Chg g0 w w')(hne:g≠g0):BlkAt e k w' g xs rest:=he.blk h hne
theorem BlkAt.rd(h:BlkAt e k w g xs rest):Rd w (some ⟨g,0,none⟩) (vals k xs):=
 .inr ⟨g,0,rfl,fun i v hi=>by
  rw[Nat.zero_add,cell_of_row w g i _ e _ h];have hl:i<(vals k xs).length:=(List.getElem?_eq_some_iff.1 hi).1;simp only[List.getElem?_toArray,List.getElem?_append,hl,if_true]
  exact hi⟩
theorem BlkAt.own{B0 cap:Nat}(h:BlkAt e k w g xs rest)(hg:B0≤g)(hc:xs.length+rest.length=cap):Own e B0 w (some ⟨g,0,none⟩) cap (vals k xs):=
 .inr ⟨g,_,rfl,hg,h,by simp[vals_length,hc],by simp⟩
theorem BlkAt.frL{B0 cap:Nat}(h:BlkAt e k w g xs rest)(hg:B0≤g)(hc:xs.length+rest.length=cap)(hm:cap≤9223372036854775807)(n:Nat)(hn:n≤xs.length):
  FrL e k B0 w (.slice (some ⟨g,0,none⟩) n cap) (xs.take n):=by
 refine⟨_,cap,by rw[List.length_take,Nat.min_eq_left hn],by rw[List.length_take];omega,hm,?_⟩;rw[vals_take];exact(h.own hg hc).take n
theorem BlkAt.frN{B0 cap B n:Nat}(h:BlkAt e k w g xs rest)(hg:B0≤g)(hB:1<B)(d:Dig B xs)(hv:val B xs=n)(hc:xs.length+rest.length=cap)(hm:cap≤9223372036854775807):
  FrN e k B B0 w (.slice (some ⟨g,0,none⟩) (tz xs).length cap) n:=by
 have h1:=h.frL hg hc hm (tz xs).length (tz_length_le xs);have ht:=tz_eq_dg hB d;rw[hv]at ht;rw[tz_take]at h1;unfold FrN;rw[←ht];exact h1
end
theorem FrL.blk{e:TypeId}{k:IntKind}{B0:Nat}{w:World}{v:Value}{xs:List Nat}(h:FrL e k B0 w v xs)(hne:0<xs.length):
  ∃g rest cap,v= .slice (some ⟨g,0,none⟩) xs.length cap∧B0≤g∧BlkAt e k w g xs rest∧xs.length+rest.length=cap∧cap≤9223372036854775807:=by
 obtain⟨ad,cap,rfl,h2,h3,h4⟩:=h
 rcases h4 with⟨h4,_⟩ |⟨g,cur,rfl,hg,hh,hs,ht⟩
 ·rw[vals_nil.1 h4]at hne;simp at hne
 ·refine⟨g,cur.toList.drop xs.length,cap,rfl,hg,?_,?_,h3⟩
  ·unfold BlkAt;rw[hh]
   congr 2
   rw[vals_length]at ht;rw[←ht,List.take_append_drop]
  ·have hl:=congrArg List.length ht
   have e1:cur.toList.length=cur.size:=Array.length_toList
   rw[List.length_take,vals_length]at hl;rw[List.length_drop];omega
theorem wpList_make_new{P:Program}(w:World){ops:Array Oper}{rest:List Oper}{o:Oper}{a:Act}{Q:Exit→Act→World→Prop}
  (hg:o.guard=none) (l c:Operand) (t:TypeId) (hop:o.op=Op.makeSlice t l c)
  (e:TypeId) (z:Value) (bytes:Nat) (h1:P.underlying t=some (.slice e)) (h2:(P.info? e).map (fun i=>(i.zero,i.size,i.bytes))=some (some z,1,bytes)) (hz:z.cells=#[z])
  (kl kc:IntKind) (L C:Int) (n:Nat) (hl:a.eval l= .int kl L) (hc:a.eval c= .int kc C) (hL:L=(n:Int)) (hC:C=(n:Int)) (b2:bytes*n≤281474976710656) (b3:n≤maxLen)
  (hK:∀w' g,Ext w w'→w.heap.size≤g→w'.heap[g]? =some (.cells (List.replicate n z).toArray e (0,0))→wpList P ops Q rest (a.put o.dst (.slice (some ⟨g,0,none⟩) n n)) w'):
  wpList P ops Q (o::rest) a w:=by
 obtain⟨i,hi,hz0,hz1,hz2⟩:=info_parts h2;subst hz2;refine wpList_make_full w hg l c t hop w.heap.size e i z 1 h1 hi hz0 hz1 kl kc L C n hl hc hL hC b2 b3 (Nat.le_refl _) (fun w' hown hgr=> ?_);refine hK w' w.heap.size hgr (Nat.le_refl _) ?_;rw[hz,Nat.mul_one,toList_madeCells_one]at hown
 rcases hown.2 with⟨hv,_⟩ |⟨g,cap,cur,hv,_,hb,_,_,hsz,htake⟩
 ·cases hv
 ·simp only[Value.slice.injEq,Option.some.injEq,Addr.mk.injEq,and_true]at hv;obtain⟨rfl,_,rfl⟩:=hv;rw[hb]
  congr 1
  congr 1
  rw[Nat.mul_one]at htake hsz;rw[List.take_of_length_le (by simp[hsz])]at htake;rw[←htake]
theorem wpList_make_vals{P:Program}(w:World){ops:Array Oper}{rest:List Oper}{o:Oper}{a:Act}{Q:Exit→Act→World→Prop}
  (hg:o.guard=none) (l c:Operand) (t:TypeId) (hop:o.op=Op.makeSlice t l c)
  (e:TypeId) (k:IntKind) (bytes:Nat) (h1:P.underlying t=some (.slice e)) (h2:(P.info? e).map (fun i=>(i.zero,i.size,i.bytes))=some (some (.int k 0),1,bytes))
  (kl kc:IntKind) (L C:Int) (n:Nat) (hl:a.eval l= .int kl L) (hc:a.eval c= .int kc C) (hL:L=(n:Int)) (hC:C=(n:Int)) (b2:bytes*n≤281474976710656) (b3:n≤9223372036854775807)
  (hK:∀w' g,Ext w w'→w.heap.size≤g→BlkAt e k w' g (List.replicate n 0) []→wpList P ops Q rest (a.put o.dst (.slice (some ⟨g,0,none⟩) n n)) w'):
  wpList P ops Q (o::rest) a w:=
 wpList_make_new w hg l c t hop e (.int k 0) bytes h1 h2 rfl kl kc L C n hl hc hL hC b2 (by unfold maxLen;omega) fun w' g he hb hh=>hK w' g he hb (by unfold BlkAt;rw[hh];simp[vals])
theorem FrL.owns{e:TypeId}{k:IntKind}{B0:Nat}{w:World}{v:Value}{xs:List Nat}(h:FrL e k B0 w v xs):w.ownsRow B0 e 1 v xs.length (vals k xs):=by
 obtain⟨ad,cap,rfl,h2,h3,h4⟩:=h;refine⟨by rw[vals_length,Nat.mul_one],?_⟩
 rcases h4 with⟨h,h',h''⟩ |⟨g,cur,h1,hg,hh,hs,ht⟩
 ·have:=vals_nil.1 h
  subst this h' h'';exact .inl ⟨rfl,rfl⟩
 ·subst h1;exact .inr ⟨g,cap,cur,rfl,hg,hh,h2,by unfold maxLen;omega,by omega,by rw[Nat.mul_one];rw[vals_length]at ht;exact ht⟩
theorem BlkAt.fr{w:World}{g:Nat}{k:IntKind}{xs:List Nat}{rest:List Value}{e:TypeId}{B0 cap:Nat}(h:BlkAt e k w g xs rest)(hg:B0≤g)(hc:xs.length+rest.length=cap)(hm:cap≤9223372036854775807):
  FrL e k B0 w (.slice (some ⟨g,0,none⟩) xs.length cap) xs:=by
 have:=h.frL hg hc hm xs.length (Nat.le_refl _)
 rwa [List.take_of_length_le (Nat.le_refl _)]at this
theorem vals_one(k:IntKind)(zs:List Nat):∀u∈vals k zs,u.oneCell'=true:=by
 intro u hu;obtain⟨x,_,rfl⟩:=List.mem_map.1 hu
 rfl
theorem FrL.block{e:TypeId}{k:IntKind}{B0:Nat}{w:World}{v:Value}{xs:List Nat}(h:FrL e k B0 w v xs):∀g,v.ownBlock=some g→B0≤g:=fun g hg=>(h.owns.lt g hg).1
theorem run_append_nothing{P:Program}{w:World}(base:Nat)(t ty e:TypeId)(i:TypeInfo)(size c:Nat)(ht:P.underlying t=some (.slice e))(hi:P.info? e=some i)
  (v:Value) (n:Nat) (xs:List Value) (hown:w.ownsRow base e size v n xs):
  (Builtin.append_ #[t,t] ty #[v,.slice none 0 c]).run P w= .ok v w:=by
 have e0:(Builtin.append_ #[t,t] ty #[v,.slice none 0 c])=(Builtin.append_ #[t,t] ty #[v,.slice none 0 0]):=rfl
 rw[e0];exact run_append_owned_none w base t ty e i size ht hi v n xs hown
theorem wpList_append_fr{P:Program}(w:World){ops:Array Oper}{rest:List Oper}{o:Oper}{a:Act}{Q:Exit→Act→World→Prop}
  (hgd:o.guard=none) (s x:Operand) (t:TypeId) (ho:o.op= .call {callee:= .builtin .append,args:=#[s,x],argTypes:=#[t,t]})
  (e:TypeId) (k:IntKind) (bytes:Nat) (h1:P.underlying t=some (.slice e)) (h2:(P.info? e).map (fun i=>(i.zero,i.size,i.bytes))=some (some (.int k 0),1,bytes))
  (B0:Nat) (v:Value) (xs ys:List Nat) (ad:Option Addr) (m c:Nat) (hs:a.eval s=v) (hx:a.eval x= .slice ad m c) (hm:ys.length=m)
  (hfr:FrL e k B0 w v xs) (hrd:Rd w ad (vals k ys)) (hb:(xs.length+m)*bytes≤140737488355328) (hl:xs.length+m≤9223372036854775807) (hB:B0≤w.heap.size)
  (hK:∀v' w',FrL e k B0 w' v' (xs++ys)→w.grownBy w' v.ownBlock→wpList P ops Q rest (a.put o.dst v') w'):
  wpList P ops Q (o::rest) a w:=by
 obtain⟨i,hi,hz0,hz1,hz2⟩:=info_parts h2;subst hm
 cases ad with
 |none=>
  have hy:ys=[]:=by
   rcases hrd with h |⟨_,_,h,_⟩
   ·exact vals_nil.1 h
   ·cases h
  subst hy
  refine wpList_plain hgd fun K hK'=> ?_
  have hrun:=run_append_nothing (P:=P) (w:=w) B0 t o.type e i 1 c h1 hi v xs.length _ hfr.owns;unfold Oper.wp
  simp[execOp,ho,resolve,invoke,builtin,hs,hx,hrun,Result.andThen]
  exact hK' _ _ (hK v w (by simpa using hfr) ⟨rfl,rfl,rfl,Nat.le_refl _,fun _ _ _=>rfl⟩)
 |some ad=>
  refine wpList_append_own w hgd s x t ho B0 e i (.int k 0) 1 bytes h1 hi hz0 hz1 hz2 rfl (by decide) v xs.length (vals k xs) hs hfr.owns ad ys.length c (vals k ys) hx (by rw[vals_length,Nat.mul_one])
   (hrd.addr ad rfl (Ext.refl w)) (vals_one k ys) (by unfold maxLen;omega) hb hB (fun v' w' hown hgr _=> ?_)
  rw[←vals_append]at hown;exact hK v' w' (own_frl hown) hgr
theorem wpList_make_lc{P:Program}(w:World){ops:Array Oper}{rest:List Oper}{o:Oper}{a:Act}{Q:Exit→Act→World→Prop}
  (hg:o.guard=none) (l c:Operand) (t:TypeId) (hop:o.op=Op.makeSlice t l c)
  (e:TypeId) (k:IntKind) (bytes:Nat) (h1:P.underlying t=some (.slice e)) (h2:(P.info? e).map (fun i=>(i.zero,i.size,i.bytes))=some (some (.int k 0),1,bytes))
  (kl kc:IntKind) (L C:Int) (n m:Nat) (hl:a.eval l= .int kl L) (hc:a.eval c= .int kc C) (hL:L=(n:Int)) (hC:C=((n+m:Nat):Int)) (b2:bytes*(n+m)≤281474976710656) (b3:n+m≤9223372036854775807)
  (hK:∀w' g,Ext w w'→w.heap.size≤g→BlkAt e k w' g (List.replicate n 0) (vals k (List.replicate m 0))→wpList P ops Q rest (a.put o.dst (.slice (some ⟨g,0,none⟩) n (n+m))) w'):
  wpList P ops Q (o::rest) a w:=by
 obtain⟨i,hi,hz0,hz1,hz2⟩:=info_parts h2
 refine wpList_plain hg fun K hK'=> ?_
 have hb':(i.bytes:Int)*((n+m:Nat):Int)≤281474976710656:=by rw[hz2];have:=b2;rw[←Int.natCast_mul];omega
 have hrun:=run_make (P:=P) w t e i (.int k 0) h1 hi hz0 kl kc (n:Int) ((n+m:Nat):Int) (by omega) (by omega) hb' (by omega);subst hL hC
 have e1:(madeCells (Value.int k 0).cells (((n+m:Nat):Int).toNat*i.size))=(vals k (List.replicate n 0)++vals k (List.replicate m 0)).toArray:=by
  rw[hz1,Nat.mul_one,Int.toNat_natCast]
  apply Array.ext'
  show(madeCells #[Value.int k 0] (n+m)).toList=_
  rw[toList_madeCells_one]
  simp[vals,List.replicate_append_replicate]
 rw[e1,Int.toNat_natCast,Int.toNat_natCast]at hrun;unfold Oper.wp;simp only[execOp,hop,hl,hc,Sem.run_bind,hrun,Result.andThen_ok,Sem.run_pure];exact hK' _ _ (hK _ w.heap.size ((Ext.refl w).alloc _) (Nat.le_refl _) (heap_alloc_new w _))
theorem Rd.new1(w:World)(k:IntKind)(c:Nat)(e:TypeId):Rd (w.alloc (.cells #[.int k (c:Int)] e)) (some ⟨w.heap.size,0,none⟩) (vals k [c]):=
 .inr ⟨_,0,rfl,fun i v hi=>by
  rw[Nat.zero_add,cell_of_row _ w.heap.size i _ e _ (heap_alloc_new w _)]
  simpa[vals]using hi⟩
theorem FrL.alloc{e:TypeId}{k:IntKind}{B0:Nat}{w:World}{v:Value}{xs:List Nat}(h:FrL e k B0 w v xs)(o:Obj):FrL e k B0 (w.alloc o) v xs:=h.ext ((Ext.refl w).alloc o)
theorem frL_tz{e:TypeId}{k:IntKind}{B0:Nat}{w:World}{ad:Option Addr}{cap:Nat}{xs:List Nat}(h:FrL e k B0 w (.slice ad xs.length cap) xs):FrL e k B0 w (.slice ad (tz xs).length cap) (tz xs):=by
 obtain⟨ad',cap',hv,h2,h3,h4⟩:=h;simp only[Value.slice.injEq]at hv;obtain⟨rfl,_,rfl⟩:=hv;refine⟨ad,cap,rfl,Nat.le_trans (tz_length_le xs) h2,h3,?_⟩;rw[←tz_take,vals_take];exact h4.take _
theorem Ext.step_own{a w w':World}{r:Option Nat}(h:Ext a w)(k:w.grownBy w' r)(hg:∀g,r=some g→a.heap.size≤g):Ext a w':=by
 cases r with
 |none=>exact h.trans k
 |some g=>exact h.step k (hg g rfl)
def fillL(f:Nat→Value):List Oper→Nat→Array Value→Array Value
 | [],_,t=>t
 |o::l,k,t=>fillL f l (k+1) (match o.dst with |some d=>t.setIfInBounds d (f k) |none=>t)
def fillR(ops:Array Oper)(tmps:Array Value)(f:Nat→Value):Array Value:=fillL f ops.toList 0 tmps
def dstFresh(d:Option Tmp)(l:List Oper):Bool:=
 match d with
 |none=>true
 |some d=>l.all fun o=>o.dst !=some d
def dstsOkL(n:Nat):List Oper→Bool
 | []=>true
 |o::l=>(match o.dst with |some d=>decide (d<n) |none=>true)&&dstFresh o.dst l&&dstsOkL n l
def edgesOkL:List Oper→Nat→Bool
 | [],_=>true
 |o::l,k=>(o.after.toList.all fun e=> !Region.binds .any e || decide (e.on<k))&&edgesOkL l (k+1)
def guardsOk(ops:Array Oper):Bool:=
 ops.toList.all fun o=>match o.guard with
  |none=>true
  |some (j,_)=>((ops[j]?).bind (·.dst)).isSome
def regOk(ops:Array Oper)(n:Nat):Bool:=dstsOkL n ops.toList&&edgesOkL ops.toList 0&&guardsOk ops
theorem fillL_size(f:Nat→Value):∀(l:List Oper) (k:Nat) (t:Array Value),(fillL f l k t).size=t.size
 | [],_,_=>rfl
 |o::l,k,t=>by
  rw[fillL,fillL_size f l]
  cases o.dst<;>simp
theorem fillL_other(f:Nat→Value)(d:Nat):∀(l:List Oper) (k:Nat) (t:Array Value),(l.all fun o=>o.dst !=some d)=true→(fillL f l k t)[d]? =t[d]?
 | [],_,_,_=>rfl
 |o::l,k,t,h=>by
  simp only[List.all_cons,Bool.and_eq_true]at h;rw[fillL,fillL_other f d l _ _ h.2]
  cases ho:o.dst with
  |none=>rfl
  |some e=>
   have hne:e≠d:=by
    have:=h.1
    rw[ho]at this
    simpa using this
   simp[Array.getElem?_setIfInBounds_ne hne]
theorem fillL_congr(f g:Nat→Value):∀(l:List Oper) (k:Nat) (t:Array Value),(∀i,k≤i→i<k+l.length→f i=g i)→fillL f l k t=fillL g l k t
 | [],_,_,_=>rfl
 |o::l,k,t,h=>by
  rw[fillL,fillL,h k (Nat.le_refl _) (by simp)];exact fillL_congr f g l _ _ (fun i h1 h2=>h i (by omega) (by simp only[List.length_cons];omega))
theorem fillL_get(f:Nat→Value):∀(l:List Oper) (k:Nat) (t:Array Value),dstsOkL t.size l=true→∀i o d,l[i]? =some o→o.dst=some d→(fillL f l k t)[d]? =some (f (k+i))
 | [],_,_,_,i,o,d,h,_=>by simp at h
 |x::l,k,t,hok,i,o,d,h,hd=>by
  simp only[dstsOkL,Bool.and_eq_true]at hok;obtain⟨⟨h1,h2⟩,h3⟩:=hok
  cases i with
  |zero=>
   simp only[List.getElem?_cons_zero,Option.some.injEq]at h;subst h;rw[hd]at h1 h2;rw[fillL,fillL_other f d l _ _ h2,hd]
   simp at h1
   simp[h1]
  |succ i=>
   simp only[List.getElem?_cons_succ]at h;rw[fillL]
   have hs:(match x.dst with |some d=>t.setIfInBounds d (f k) |none=>t).size=t.size:=by cases x.dst<;>simp
   rw[fillL_get f l (k+1) _ (by rw[hs];exact h3) i o d h hd]
   congr 2
   omega
theorem fillL_put(f:Nat→Value)(v:Value):∀(l:List Oper) (k:Nat) (t:Array Value),dstsOkL t.size l=true→∀i o,l[i]? =some o→
  (match o.dst with |some d=>(fillL f l k t).setIfInBounds d v |none=>fillL f l k t)=fillL (fun j=>if j=k+i then v else f j) l k t
 | [],_,_,_,i,o,h=>by simp at h
 |x::l,k,t,hok,i,o,h=>by
  have hok':=hok;simp only[dstsOkL,Bool.and_eq_true]at hok;obtain⟨⟨h1,h2⟩,h3⟩:=hok
  cases i with
  |zero=>
   simp only[List.getElem?_cons_zero,Option.some.injEq]at h;subst h
   have hc:fillL (fun j=>if j=k+0 then v else f j) l (k+1) (match x.dst with |some d=>t.setIfInBounds d v |none=>t)=fillL f l (k+1) (match x.dst with |some d=>t.setIfInBounds d v |none=>t):=
    fillL_congr _ _ _ _ _ (fun j hj _=>by rw[if_neg (by omega)])
   rw[fillL,fillL];simp only[Nat.add_zero,if_true]at hc ⊢;rw[hc]
   cases hx:x.dst with
   |none=>rfl
   |some d=>
    simp only
    rw[hx]at h2
    refine Array.ext_getElem? fun j=> ?_
    by_cases hj:d=j
    ·subst hj;rw[fillL_other f d l _ _ h2]
     have:=fillL_size f l (k+1) (t.setIfInBounds d (f k))
     simp only[Array.getElem?_setIfInBounds_self,this,Array.size_setIfInBounds]
    ·rw[Array.getElem?_setIfInBounds_ne hj];exact fillL_agree f l (k+1) _ _ j (by simp[Array.getElem?_setIfInBounds_ne hj]) (by simp)
  |succ i=>
   simp only[List.getElem?_cons_succ]at h
   have hs:(match x.dst with |some d=>t.setIfInBounds d (f k) |none=>t).size=t.size:=by cases x.dst<;>simp
   have ih:=fillL_put f v l (k+1) (match x.dst with |some d=>t.setIfInBounds d (f k) |none=>t) (by rw[hs];exact h3) i o h;rw[fillL,fillL,ih]
   have e1:k+1+i=k+(i+1):=by omega
   rw[e1];rw[if_neg (show¬k=k+(i+1)by omega)]
where
 fillL_agree (f:Nat→Value):∀(l:List Oper) (k:Nat) (t u:Array Value) (j:Nat),t[j]? =u[j]? →t.size=u.size→(fillL f l k t)[j]? =(fillL f l k u)[j]?
  | [],_,_,_,_,h,_=>h
  |o::l,k,t,u,j,h,hs=>by
   rw[fillL,fillL];refine fillL_agree f l (k+1) _ _ j ?_ ?_
   ·cases o.dst with
    |none=>exact h
    |some d=>
     by_cases hj:d=j
     ·subst hj;rw[Array.getElem?_setIfInBounds_self,Array.getElem?_setIfInBounds_self,hs]
     ·simp[Array.getElem?_setIfInBounds_ne hj,h]
   ·cases o.dst<;>simp [hs]
theorem fillL_old(t:Array Value)(f:Nat→Value):∀(l:List Oper) (k:Nat) (u:Array Value),u=t→(∀i o d,l[i]? =some o→o.dst=some d→f (k+i)=t.getD d undef)→fillL f l k u=t
 | [],_,_,hu,_=>hu
 |o::l,k,u,hu,h=>by
  subst hu;rw[fillL];refine fillL_old u f l (k+1) _ ?_ (fun i o' d hi hd=>by rw[←h (i+1) o' d (by simpa using hi) hd];congr 1;omega)
  cases ho:o.dst with
  |none=>rfl
  |some d=>
   have:=h 0 o d rfl ho
   simp only[Nat.add_zero]at this;rw[this]
   refine Array.ext_getElem? fun j=> ?_
   by_cases hj:d=j
   ·subst hj;rw[Array.getElem?_setIfInBounds_self]
    split
    ·rename_i hlt
     simp[hlt]
    ·rename_i hlt
     simp[Array.getElem?_eq_none (Nat.le_of_not_lt hlt)]
   ·simp[Array.getElem?_setIfInBounds_ne hj]
theorem edgesOkL_at:∀(l:List Oper) (k:Nat),edgesOkL l k=true→∀i o,l[i]? =some o→∀e∈o.after,Region.binds .any e=true→e.on<k+i
 | [],_,_,i,o,h=>by simp at h
 |x::l,k,hok,i,o,h=>by
  simp only[edgesOkL,Bool.and_eq_true]at hok
  cases i with
  |zero=>
   simp only[List.getElem?_cons_zero,Option.some.injEq]at h;subst h;intro e he hb
   have:=List.all_eq_true.1 hok.1 e (Array.mem_toList_iff.2 he)
   simpa[hb]using this
  |succ i=>
   intro e he hb
   have:=edgesOkL_at l (k+1) hok.2 i o (by simpa using h) e he hb
   omega
theorem Oper.wp_noQ{P:Program}{o:Oper}{a:Act}{w:World}{K:Act→World→Prop}{Q:Exit→Act→World→Prop}(h:o.wp P a w K (fun _ _ _=>False)):o.wp P a w K Q:=by
 unfold Oper.wp at*
 generalize (execOp a.eval o).run P w=r at*
 cases r with
 |ok n w'=>
  cases n<;>simp only[Oper.upon]at h ⊢ <;>first
   |exact h
   |exact Calls.mono h (fun e w'' he=>by
     cases e with
     |returned v=>exact he
     |panicked c=>exact he.elim
     |outgrown=>obtain ⟨_,_,hf⟩:=he;exact hf.elim)
 |halt x w'=>cases x<;>simp only[Oper.upon]at h ⊢
def OpFin(a:Act)(dst:Option Tmp)(w:World)(R:World→World→Prop)(post:Value→World→Prop)(a':Act)(w':World):Prop:=∃v,a'=a.put dst v∧R w w'∧post v w'
def OpGoal(P:Program)(o:Oper)(a:Act)(f:Nat→Value)(w:World)(R:World→World→Prop)(post:Value→World→Prop):Prop:=
 match o.guard with
 |none=>o.wp P a w (OpFin a o.dst w R post) (fun _ _ _=>False)
 |some (j,want)=>
  (f j= .bool want→o.wp P a w (OpFin a o.dst w R post) (fun _ _ _=>False))∧(f j≠ .bool want→post undef w)
section
variable {P:Program} {id:Nat} {ops:Array Oper} {Q:Exit→Act→World→Prop} {tmps:Array Value} {df:List Deferred} {w:World}
 {G:World→World→Prop} {G0:Nat→World→World→Prop} {R:Nat→World→World→Prop} {post:Nat→Value→World→Prop} {D:(Nat→Bool)→(Nat→Value)→World→Prop}
theorem OpGoal.mono{P:Program}{o:Oper}{a:Act}{f:Nat→Value}{w:World}{R R':World→World→Prop}{p p':Value→World→Prop}(hR:∀w',R w w'→R' w w')(hp:∀v w',R w w'→p v w'→p' v w')(hu:p undef w→p' undef w)(h:OpGoal P o a f w R p):OpGoal P o a f w R' p':=by
 have key:∀{Q:Exit→Act→World→Prop},o.wp P a w (OpFin a o.dst w R p) Q→o.wp P a w (OpFin a o.dst w R' p') Q:=fun h=>Oper.wp_mono (fun a' w' ⟨v,h1,h2,h3⟩=>⟨v,h1,hR _ h2,hp _ _ h2 h3⟩) h
 unfold OpGoal at h ⊢
 split at h
 ·exact key h
 ·exact⟨fun hc=>key (h.1 hc),fun hc=>hu (h.2 hc)⟩
structure RegInv (ops:Array Oper) (tmps:Array Value) (df:List Deferred) (w:World) (G:World→World→Prop) (G0:Nat→World→World→Prop) (post:Nat→Value→World→Prop) (D:(Nat→Bool)→(Nat→Value)→World→Prop) (listed:Nat→Bool) (a:Act) (w1:World) (f:Nat→Value):Prop where
 act:a=⟨fillR ops tmps f,df⟩
 grown:G w w1
 pre:∀s,listed s=false→G0 s w w1
 done:∀i,i<ops.size→listed i=true→post i (f i) w1
 old:∀i o d,listed i=false→ops[i]? =some o→o.dst=some d→f i=tmps.getD d undef
 joint:D listed f w1
def behind(ops:Array Oper)(i:Nat):Nat→Nat→Bool
 |0,s=>i==s
 |n+1,s=>i==s || ((ops[s]?).any fun os=>os.after.toList.any fun e=>Region.binds .any e&&behind ops i n e.on)
theorem behind_listed{ops:Array Oper}{listed:Nat→Bool}(hcons:∀j oj,ops[j]? =some oj→listed j=true→∀e∈oj.after,Region.binds .any e=true→listed e.on=true)(i:Nat):
  ∀(n s:Nat),behind ops i n s=true→listed s=true→listed i=true
 |0,s,h,hl=>by
  have:i=s:=by simpa[behind]using h
  rw[this];exact hl
 |n+1,s,h,hl=>by
  simp only[behind,Bool.or_eq_true,beq_iff_eq]at h
  rcases h with h |h
  ·rw[h];exact hl
  ·cases hos:ops[s]? with
   |none=>rw [hos]at h;cases h
   |some os=>
    rw[hos]at h;obtain⟨e,hem,heb⟩:=List.any_eq_true.1 h;simp only[Bool.and_eq_true]at heb;exact behind_listed hcons i n e.on heb.2 (hcons s os hos hl e (Array.mem_toList_iff.1 hem) heb.1)
inductive Anc (ops:Array Oper) (i:Nat):Nat→Prop
 |self:Anc ops i i
 |edge {s:Nat} {os:Oper} {e:Edge}:ops[s]? =some os→e∈os.after→Region.binds .any e=true→Anc ops i e.on→Anc ops i s
theorem Anc.listed{ops:Array Oper}{listed:Nat→Bool}(hcons:∀j oj,ops[j]? =some oj→listed j=true→∀e∈oj.after,Region.binds .any e=true→listed e.on=true){i s:Nat}(h:Anc ops i s)(hl:listed s=true):listed i=true:=by
 induction h with
 |self=>exact hl
 |edge ho he hb _ ih=>exact ih (hcons _ _ ho hl _ he hb)
theorem behind_anc{ops:Array Oper}{i:Nat}:∀(n s:Nat),behind ops i n s=true→Anc ops i s
 |0,s,h=>by
  have:i=s:=by simpa[behind]using h
  rw[this];exact .self
 |n+1,s,h=>by
  simp only[behind,Bool.or_eq_true,beq_iff_eq]at h
  rcases h with h |h
  ·rw[h];exact .self
  ·cases hos:ops[s]? with
   |none=>rw [hos]at h;cases h
   |some os=>
    rw[hos]at h;obtain⟨e,hem,heb⟩:=List.any_eq_true.1 h;simp only[Bool.and_eq_true]at heb;exact .edge hos (Array.mem_toList_iff.1 hem) heb.1 (behind_anc n e.on heb.2)
theorem Anc.trans{ops:Array Oper}{i j s:Nat}(h:Anc ops i j)(k:Anc ops j s):Anc ops i s:=by
 induction k with
 |self=>exact h
 |edge ho he hb _ ih=>exact .edge ho he hb ih
def StepsOk(P:Program)(ops:Array Oper)(tmps:Array Value)(df:List Deferred)(w:World)(G:World→World→Prop)(G0:Nat→World→World→Prop)(R:Nat→World→World→Prop)(post:Nat→Value→World→Prop)(D:(Nat→Bool)→(Nat→Value)→World→Prop):Prop:=
 ∀i o,ops[i]? =some o→∀(listed:Nat→Bool) (f:Nat→Value) (w1:World),listed i=false→(∀j,Anc ops j i→j≠i→listed j=true)→D listed f w1→G w w1→
  (∀s,Anc ops i s→G0 s w w1)→
  (∀e∈o.after,Region.binds .any e=true→post e.on (f e.on) w1)→
  (∀j oj d,ops[j]? =some oj→oj.dst=some d→(oj.after.toList.any fun e=>Region.binds .any e&&e.on==i)=true→f j=tmps.getD d undef)→
  OpGoal P o ⟨fillR ops tmps f,df⟩ f w1 (R i) (fun v w2=>post i v w2∧D (fun j=>if j=i then true else listed j) (fun j=>if j=i then v else f j) w2)
theorem RegInv.step(hok:regOk ops tmps.size=true)(hGR:∀i w1 w2,G w w1→R i w1 w2→G w w2)(hGR0:∀s i w1 w2,i≠s→G0 s w w1→R i w1 w2→G0 s w w2)
  (hmono:∀i j v w1 w2,i≠j→G w w1→R j w1 w2→post i v w1→post i v w2)
  (hstep:StepsOk P ops tmps df w G G0 R post D)
  {listed:Nat→Bool} {a:Act} {w1:World} {f:Nat→Value} (hI:RegInv ops tmps df w G G0 post D listed a w1 f)
  {i:Nat} {o:Oper} (ho:ops[i]? =some o) (hi:listed i=false) (hedges:∀e∈o.after,Region.binds .any e=true→listed e.on=true)
  (hcons:∀j oj,ops[j]? =some oj→listed j=true→∀e∈oj.after,Region.binds .any e=true→listed e.on=true)
  {K:Act→World→Prop} (hK:∀a' w' f',RegInv ops tmps df w G G0 post D (fun j=>if j=i then true else listed j) a' w' f'→K a' w'):
  wpOp P ops Q i K a w1:=by
 have hok':=hok;simp only[regOk,Bool.and_eq_true]at hok;obtain⟨⟨hd,he⟩,hg⟩:=hok
 have hio:ops.toList[i]? =some o:=by simpa using ho
 have hlt:i<ops.size:=(Array.getElem?_eq_some_iff.1 ho).1
 have hposts:∀e∈o.after,Region.binds .any e=true→post e.on (f e.on) w1:=fun e hm hb=>by
  have hlt':=edgesOkL_at ops.toList 0 he i o hio e hm hb;exact hI.done e.on (by omega) (hedges e hm hb)
 have hlate:∀j oj d,ops[j]? =some oj→oj.dst=some d→(oj.after.toList.any fun e=>Region.binds .any e&&e.on==i)=true→f j=tmps.getD d undef:=by
  intro j oj d hj hdj hany;obtain⟨e,hem,heb⟩:=List.any_eq_true.1 hany;simp only[Bool.and_eq_true,beq_iff_eq]at heb;refine hI.old j oj d ?_ hj hdj
  cases hl:listed j with
  |false=>rfl
  |true=>
   have:=hcons j oj hj hl e (Array.mem_toList_iff.1 hem) heb.1
   rw[heb.2,hi]at this
   cases this
 have hpre:∀s,Anc ops i s→G0 s w w1:=by
  intro s h;refine hI.pre s ?_
  cases hl:listed s with
  |false=>rfl
  |true=>
   have:=Anc.listed hcons h hl
   rw[hi]at this
   cases this
 have hbefore:∀j,Anc ops j i→j≠i→listed j=true:=by
  intro j hj hne
  cases hj with
  |self=>exact absurd rfl hne
  |edge hos he hb hanc=>
   rw[ho]at hos
   cases hos
   exact Anc.listed hcons hanc (hedges _ he hb)
 have hgoal:=hstep i o ho listed f w1 hi hbefore hI.joint hI.grown hpre hposts hlate
 have hput:∀v,(⟨fillR ops tmps f,df⟩:Act).put o.dst v=⟨fillR ops tmps (fun j=>if j=i then v else f j),df⟩:=by
  intro v
  have:=fillL_put f v ops.toList 0 tmps hd i o hio
  simp only[Nat.zero_add]at this;unfold fillR;rw[←this]
  cases o.dst<;>rfl
 have next:∀v w2,G w w2→(∀s,i≠s→listed s=false→G0 s w w2)→(∀j,j<ops.size→listed j=true→j≠i→post j (f j) w2)→(post i v w2∧D (fun j=>if j=i then true else listed j) (fun j=>if j=i then v else f j) w2)→K ((⟨fillR ops tmps f,df⟩:Act).put o.dst v) w2:=by
  intro v w2 hGw hpw hothers hpi;refine hK _ _ (fun j=>if j=i then v else f j) ⟨hput v,hGw,?_,?_,?_,hpi.2⟩
  ·intro s hl
   by_cases hsi:s=i
   ·subst hsi;simp at hl
   ·simp only[hsi,if_false]at hl;exact hpw s (fun e=>hsi e.symm) hl
  ·intro j hj hl
   by_cases hji:j=i
   ·subst hji
    simpa using hpi.1
   ·simp only[hji,if_false]at hl ⊢;exact hothers j hj hl hji
  ·intro j oj d hl hj hdj
   by_cases hji:j=i
   ·subst hji
    simp at hl
   ·simp only[hji,if_false]at hl ⊢;exact hI.old j oj d hl hj hdj
 have run:o.wp P ⟨fillR ops tmps f,df⟩ w1 (OpFin ⟨fillR ops tmps f,df⟩ o.dst w1 (R i) (fun v w2=>post i v w2∧D (fun j=>if j=i then true else listed j) (fun j=>if j=i then v else f j) w2)) (fun _ _ _=>False)→o.wp P a w1 K Q:=by
  intro h;rw[hI.act];refine Oper.wp_noQ (Oper.wp_mono (fun a' w' h'=> ?_) h);obtain⟨v,rfl,hR,hp⟩:=h';exact next v w' (hGR i w1 w' hI.grown hR) (fun s hne hl=>hGR0 s i w1 w' hne (hI.pre s hl) hR) (fun j hj hl hji=>hmono j i (f j) w1 w' hji hI.grown hR (hI.done j hj hl)) hp
 unfold wpOp;simp only[ho];unfold OpGoal at hgoal
 cases hgd:o.guard with
 |none=>
  simp only[hgd]at hgoal;rw[if_pos (by simp[Region.wanted,hgd])];exact .inl (run hgoal)
 |some gw=>
  obtain⟨j,want⟩:=gw;simp only[hgd]at hgoal;have hgj:=List.all_eq_true.1 hg o (List.mem_of_getElem? hio);simp only[hgd]at hgj;obtain⟨d,hdj⟩:=Option.isSome_iff_exists.1 hgj;obtain⟨oj,hoj,hdoj⟩:=Option.bind_eq_some_iff.1 hdj
  have hslot:(fillR ops tmps f)[d]? =some (f j):=by
   have:=fillL_get f ops.toList 0 tmps hd j oj d (by simpa using hoj) hdoj
   simpa[fillR]using this
  have hy:Region.wanted o (yielded ops a.tmps)=true↔f j= .bool want:=by
   rw[hI.act];simp only[Region.wanted,hgd,yielded,hdj,Option.bind_some,hslot]
   cases hf:f j<;>simp
  by_cases hc:f j= .bool want
  ·rw[if_pos (hy.2 hc)];exact .inl (run (hgoal.1 hc))
  ·rw[if_neg (fun h=>hc (hy.1 h)),hI.act];exact next undef w1 hI.grown (fun s _ hl=>hI.pre s hl) (fun j hj hl _=>hI.done j hj hl) (hgoal.2 hc)
theorem wpAny_posts(hok:regOk ops tmps.size=true)(hGR:∀i w1 w2,G w w1→R i w1 w2→G w w2)(hGR0:∀s i w1 w2,i≠s→G0 s w w1→R i w1 w2→G0 s w w2)
  (hmono:∀i j v w1 w2,i≠j→G w w1→R j w1 w2→post i v w1→post i v w2)
  (hstep:StepsOk P ops tmps df w G G0 R post D)
  (hend:∀f w1,G w w1→(∀i,i<ops.size→post i (f i) w1)→(∃listed:Nat→Bool,(∀i,i<ops.size→listed i=true)∧D listed f w1)→Q .normal ⟨fillR ops tmps f,df⟩ w1):
  ∀(fuel:Nat) (listed:Array Bool) (a:Act) (w1:World) (f:Nat→Value),listed.size=ops.size→(List.range ops.size).countP (fun i=> !listed.getD i true)≤fuel→
   (∀j oj,ops[j]? =some oj→listed.getD j false=true→∀e∈oj.after,Region.binds .any e=true→listed.getD e.on false=true)→
   RegInv ops tmps df w G G0 post D (fun i=>listed.getD i false) a w1 f→wpAny P .any ops Q fuel listed a w1:=by
 have hok':=hok;simp only[regOk,Bool.and_eq_true]at hok';have hedges:=edgesOkL_at ops.toList 0 hok'.1.2
 have all_of_ready:∀listed:Array Bool,listed.size=ops.size→Region.ready .any ops listed=[]→∀i,i<ops.size→listed.getD i false=true:=by
  intro listed hsz hr i
  induction i using Nat.strongRecOn with
  |_ i ih=>
   intro hi
   cases hl:listed.getD i false with
   |true=>rfl
   |false=>
    have hmem:i∈Region.ready .any ops listed:=by
     rw[mem_ready]
     have hil:i<listed.size:=by omega
     refine⟨by simpa[hil]using hl,ops[i],by simp[hi],fun e he hb=> ?_⟩
     have:=hedges i ops[i] (by simp[hi]) e he hb
     exact ih e.on (by omega) (by omega)
    rw[hr]at hmem
    cases hmem
 intro fuel
 induction fuel with
 |zero=>
  intro listed a w1 f hsz hc hcons hI
  have hall:∀i,i<ops.size→listed.getD i true=true:=by
   intro i hi
   have h0:(List.range ops.size).countP (fun i=> !listed.getD i true)=0:=by omega
   have:=List.countP_eq_zero.1 h0 i (List.mem_range.2 hi)
   simpa using this
  have hr:Region.ready .any ops listed=[]:=by
   refine List.eq_nil_iff_forall_not_mem.2 fun i hi=> ?_
   obtain⟨h0,o,ho,_⟩:=mem_ready.1 hi;have hlt:i<ops.size:=(Array.getElem?_eq_some_iff.1 ho).1;rw[hall i hlt]at h0
   cases h0
  refine⟨hr,?_⟩;rw[hI.act];exact hend f w1 hI.grown (fun i hi=>hI.done i hi (all_of_ready listed hsz hr i hi)) ⟨_,fun i hi=>all_of_ready listed hsz hr i hi,hI.joint⟩
 |succ fuel ih=>
  intro listed a w1 f hsz hc hcons hI;refine⟨fun hr=>by rw[hI.act];exact hend f w1 hI.grown (fun i hi=>hI.done i hi (all_of_ready listed hsz hr i hi)) ⟨_,fun i hi=>all_of_ready listed hsz hr i hi,hI.joint⟩,fun i hi=> ?_⟩;obtain⟨h0,o,ho,hall⟩:=mem_ready.1 hi;have hlt:i<ops.size:=(Array.getElem?_eq_some_iff.1 ho).1
  have hil:i<listed.size:=by omega
  have h0':listed.getD i false=false:=by simpa[hil]using h0
  refine RegInv.step hok hGR hGR0 hmono hstep hI ho h0' hall hcons fun a' w' f' hI'=> ?_
  refine ih (listed.setIfInBounds i true) a' w' f' (by simpa using hsz) ?_ ?_ ?_
  ·have:(List.range ops.size).countP (fun j=> !(listed.setIfInBounds i true).getD j true)<(List.range ops.size).countP (fun j=> !listed.getD j true):=by
    refine countP_lt _ _ _ (fun j hj h=> ?_) i (List.mem_range.2 hlt) (by simpa using h0) (by simp[hil])
    by_cases hji:i=j
    ·subst hji
     simpa using h0
    ·rw[getD_set_ne true hji]at h;exact h
   omega
  ·intro j oj hj hl e he hb
   by_cases hji:i=j
   ·subst hji;rw[ho]at hj
    cases hj
    exact getD_set_true (hall e he hb)
   ·rw[getD_set_ne false hji]at hl;exact getD_set_true (hcons j oj hj hl e he hb)
  ·have:(fun j=>(listed.setIfInBounds i true).getD j false)=(fun j=>if j=i then true else listed.getD j false):=by
    funext j
    by_cases hji:j=i
    ·subst hji
     simp[hil]
    ·rw[getD_set_ne false (Ne.symm hji),if_neg hji]
   rw[this];exact hI'
where
 countP_lt (p q:Nat→Bool) (l:List Nat) (h:∀j∈l,p j=true→q j=true) (i:Nat) (hi:i∈l) (hq:q i=true) (hp:p i=false):l.countP p<l.countP q:=by
  induction l with
  |nil=>cases hi
  |cons x l ih=>
   simp only[List.countP_cons]
   have hle:l.countP p≤l.countP q:=List.countP_mono_left fun j hj hp=>h j (List.mem_cons_of_mem _ hj) hp
   rcases List.mem_cons.1 hi with rfl |hi
   ·simp[hq,hp]
    omega
   ·have:=ih (fun j hj=>h j (List.mem_cons_of_mem _ hj)) hi
    have hx:=h x (List.mem_cons_self ..)
    cases hpx:p x
    ·simp;omega
    ·simp[hx hpx];omega
theorem wp_region_posts(hm:P.follows .mixedOrders=true)(hok:regOk ops tmps.size=true)(hD0:∀f,D (fun _=>false) f {w with drawn:=w.drawn+1})(hG0:G w {w with drawn:=w.drawn+1})(hG00:∀s,G0 s w {w with drawn:=w.drawn+1})(hGR:∀i w1 w2,G w w1→R i w1 w2→G w w2)(hGR0:∀s i w1 w2,i≠s→G0 s w w1→R i w1 w2→G0 s w w2)
  (hmono:∀i j v w1 w2,i≠j→G w w1→R j w1 w2→post i v w1→post i v w2)
  (hstep:StepsOk P ops tmps df w G G0 R post D)
  (hend:∀f w1,G w w1→(∀i,i<ops.size→post i (f i) w1)→(∃listed:Nat→Bool,(∀i,i<ops.size→listed i=true)∧D listed f w1)→Q .normal ⟨fillR ops tmps f,df⟩ w1):
  (Code.region id ops true).wp P Q ⟨tmps,df⟩ w:=by
 refine wp_region_any hm (wpAny_posts hok hGR hGR0 hmono hstep hend ops.size _ _ _ (fun i=>tmps.getD (((ops[i]?).bind (·.dst)).getD 0) undef) (by simp) ?_ ?_ ?_)
 ·exact Nat.le_trans List.countP_le_length (by simp)
 ·intro j oj hj hl;have hlt:j<ops.size:=(Array.getElem?_eq_some_iff.1 hj).1
  simp[hlt]at hl
 ·refine⟨?_,hG0,fun s _=>hG00 s,?_,?_,?_⟩
  ·congr 1
   refine(fillL_old tmps _ ops.toList 0 tmps rfl fun i o d hi hd=> ?_).symm
   have hi':ops[i]? =some o:=by simpa using hi
   simp only[Nat.zero_add,hi',Option.bind_some,hd,Option.getD_some]
  ·intro i hi hl
   simp[hi]at hl
  ·intro i o d _ hi hd;simp only[hi,Option.bind_some,hd,Option.getD_some]
  ·have e:(fun i=>(Array.replicate ops.size false).getD i false)=fun _=>false:=by
    funext i
    by_cases h:i<ops.size<;>simp [h]
   rw[e];exact hD0 _
end
def PostsOf(post:Nat→Value→World→Prop)(f:Nat→Value)(w:World):List Edge→Prop
 | []=>True
 |e::l=>(Region.binds .any e=true→post e.on (f e.on) w)∧PostsOf post f w l
def LateFacts(tmps:Array Value)(f:Nat→Value)(k:Nat):List (Nat×Nat×Nat)→Prop
 | []=>True
 | (k',j,d)::l=>(k'=k→f j=tmps.getD d undef)∧LateFacts tmps f k l
def lateOk(ops:Array Oper):List (Nat×Nat×Nat)→Bool
 | []=>true
 | (k,j,d)::l=>(match ops[j]? with |some o=>o.dst==some d&&(o.after.toList.any fun e=>Region.binds .any e&&e.on==k) |none=>false)&&lateOk ops l
def PreFacts(G0:Nat→Prop)(k:Nat):List (Nat×Nat)→Prop
 | []=>True
 | (k',s)::l=>(k'=k→G0 s)∧PreFacts G0 k l
def preOk(ops:Array Oper):List (Nat×Nat)→Bool
 | []=>true
 | (k,s)::l=>behind ops k 3 s&&preOk ops l
theorem preFacts_of{ops:Array Oper}{k:Nat}{G0:Nat→Prop}(h:∀s,behind ops k 3 s=true→G0 s):
  ∀(l:List (Nat×Nat)),preOk ops l=true→PreFacts G0 k l
 | [],_=>trivial
 | (k',s)::l,hok=>by
  simp only[preOk,Bool.and_eq_true]at hok;refine⟨fun hk=> ?_,preFacts_of h l hok.2⟩;subst hk;exact h s hok.1
def StepOk(P:Program)(fr:(Nat→Value)→Array Value)(lates:List (Nat×Nat×Nat))(pres:List (Nat×Nat))(tmps:Array Value)(df:List Deferred)(w:World)(G:World→World→Prop)(G0:Nat→World→World→Prop)(R:World→World→Prop)(post:Nat→Value→World→Prop)(k:Nat)(o:Oper):Prop:=
 ∀f w1,G w w1→PreFacts (fun s=>G0 s w w1) k pres→PostsOf post f w1 o.after.toList→LateFacts tmps f k lates→OpGoal P o ⟨fr f,df⟩ f w1 R (post k)
def StepsL(P:Program)(fr:(Nat→Value)→Array Value)(lates:List (Nat×Nat×Nat))(pres:List (Nat×Nat))(tmps:Array Value)(df:List Deferred)(w:World)(G:World→World→Prop)(G0:Nat→World→World→Prop)(R:Nat→World→World→Prop)(post:Nat→Value→World→Prop):List Oper→Nat→Prop
 | [],_=>True
 |o::l,k=>StepOk P fr lates pres tmps df w G G0 (R k) post k o∧StepsL P fr lates pres tmps df w G G0 R post l (k+1)
theorem postsOf_of{post:Nat→Value→World→Prop}{f:Nat→Value}{w:World}:∀(l:List Edge),(∀e∈l,Region.binds .any e=true→post e.on (f e.on) w)→PostsOf post f w l
 | [],_=>trivial
 |e::l,h=>⟨h e (List.mem_cons_self ..),postsOf_of l fun e' he=>h e' (List.mem_cons_of_mem _ he)⟩
theorem lateFacts_of{ops:Array Oper}{tmps:Array Value}{f:Nat→Value}{k:Nat}(h:∀j oj d,ops[j]? =some oj→oj.dst=some d→(oj.after.toList.any fun e=>Region.binds .any e&&e.on==k)=true→f j=tmps.getD d undef):
  ∀(l:List (Nat×Nat×Nat)),lateOk ops l=true→LateFacts tmps f k l
 | [],_=>trivial
 | (k',j,d)::l,hok=>by
  simp only[lateOk,Bool.and_eq_true]at hok;refine⟨fun hk=> ?_,lateFacts_of h l hok.2⟩;subst hk;have h1:=hok.1
  split at h1
  ·rename_i o ho
   simp only[Bool.and_eq_true,beq_iff_eq]at h1;exact h j o d ho h1.1 h1.2
  ·cases h1
theorem stepsL_at{P:Program}{fr:(Nat→Value)→Array Value}{lates:List (Nat×Nat×Nat)}{pres:List (Nat×Nat)}{tmps:Array Value}{df:List Deferred}{w:World}{G:World→World→Prop}{G0:Nat→World→World→Prop}{R:Nat→World→World→Prop}{post:Nat→Value→World→Prop}:
  ∀(l:List Oper) (k:Nat),StepsL P fr lates pres tmps df w G G0 R post l k→∀i o,l[i]? =some o→StepOk P fr lates pres tmps df w G G0 (R (k+i)) post (k+i) o
 | [],_,_,i,o,h=>by simp at h
 |x::l,k,hs,i,o,h=>by
  cases i with
  |zero=>
   simp only[List.getElem?_cons_zero,Option.some.injEq]at h;subst h;exact hs.1
  |succ i=>
   have:=stepsL_at l (k+1) hs.2 i o (by simpa using h)
   rwa [show k+1+i=k+(i+1)by omega]at this
def AllPosts(post:Nat→Value→World→Prop)(f:Nat→Value)(w:World):Nat→Nat→Prop
 |0,_=>True
 |n+1,k=>post k (f k) w∧AllPosts post f w n (k+1)
theorem allPosts_of{post:Nat→Value→World→Prop}{f:Nat→Value}{w:World}:∀(n k:Nat),(∀i,k≤i→i<k+n→post i (f i) w)→AllPosts post f w n k
 |0,_,_=>trivial
 |n+1,k,h=>⟨h k (Nat.le_refl _) (by omega),allPosts_of n (k+1) fun i h1 h2=>h i (by omega) (by omega)⟩
theorem wp_region_go{P:Program}{id:Nat}{l:List Oper}{Q:Exit→Act→World→Prop}{tmps:Array Value}{df:List Deferred}{w:World}{fr:(Nat→Value)→Array Value}
  (G:World→World→Prop) (G0:Nat→World→World→Prop) (R:Nat→World→World→Prop) (post:Nat→Value→World→Prop) (lates:List (Nat×Nat×Nat)) (pres:List (Nat×Nat))
  (hm:P.follows .mixedOrders=true) (hok:(regOk l.toArray tmps.size&&lateOk l.toArray lates&&preOk l.toArray pres)=true) (hfr:∀f,fillR l.toArray tmps f=fr f)
  (hG0:G w w.drew) (hG00:∀s,G0 s w w.drew) (hGR:∀i w1 w2,G w w1→R i w1 w2→G w w2) (hGR0:∀s i w1 w2,i≠s→G0 s w w1→R i w1 w2→G0 s w w2)
  (hmono:∀i j v w1 w2,i≠j→G w w1→R j w1 w2→post i v w1→post i v w2)
  (hstep:StepsL P fr lates pres tmps df w G G0 R post l 0)
  (hend:∀f w1,G w w1→AllPosts post f w1 l.length 0→Q .normal ⟨fr f,df⟩ w1):
  (Code.region id l.toArray true).wp P Q ⟨tmps,df⟩ w:=by
 simp only[Bool.and_eq_true]at hok;refine wp_region_posts (D:=fun _ _ _=>True) hm hok.1.1 (fun _=>trivial) hG0 hG00 hGR hGR0 hmono ?_ ?_
 ·intro i o ho listed f w1 _ _ _ hG hpre hp hl
  have:=stepsL_at l 0 hstep i o (by simpa using ho)
  rw[Nat.zero_add]at this;rw[hfr];refine OpGoal.mono (fun _ h=>h) (fun _ _ _ h=>⟨h,trivial⟩) (fun h=>⟨h,trivial⟩) ?_;exact this f w1 hG (preFacts_of (fun s hs=>hpre s (behind_anc 3 s hs)) pres hok.2) (postsOf_of _ fun e he hb=>hp e (Array.mem_toList_iff.1 he) hb) (lateFacts_of hl lates hok.1.2)
 ·intro f w1 hG hp _;rw[hfr];exact hend f w1 hG (allPosts_of _ _ fun i _ hi=>hp i (by simpa using hi))
def pl(L:List (Value→World→Prop))(i:Nat):Value→World→Prop:=L.getD i fun _ _=>True
def isV(v:Value):Value→World→Prop:=fun u _=>u=v
def AllMono(Rel:World→World→Prop):List (Value→World→Prop)→Prop
 | []=>True
 |p::l=>(∀v w1 w2,Rel w1 w2→p v w1→p v w2)∧AllMono Rel l
def AllMonoBut(Rel:World→World→Prop):Nat→List (Value→World→Prop)→Prop
 |_,[]=>True
 |0,_::l=>AllMono Rel l
 |s+1,p::l=>(∀v w1 w2,Rel w1 w2→p v w1→p v w2)∧AllMonoBut Rel s l
theorem allMono_at{Rel:World→World→Prop}:∀(L:List (Value→World→Prop)),AllMono Rel L→∀i v w1 w2,Rel w1 w2→pl L i v w1→pl L i v w2
 | [],_,i,v,w1,w2,_,h=>by simp[pl]
 |p::l,hL,i,v,w1,w2,hr,h=>by
  cases i with
  |zero=>exact hL.1 v w1 w2 hr h
  |succ i=>exact allMono_at l hL.2 i v w1 w2 hr h
theorem allMonoBut_at{Rel:World→World→Prop}:∀(s:Nat) (L:List (Value→World→Prop)),AllMonoBut Rel s L→∀i,i≠s→∀v w1 w2,Rel w1 w2→pl L i v w1→pl L i v w2
 |_,[],_,i,_,v,w1,w2,_,h=>by simp[pl]
 |0,p::l,hL,i,hi,v,w1,w2,hr,h=>by
  cases i with
  |zero=>exact absurd rfl hi
  |succ i=>exact allMono_at l hL i v w1 w2 hr h
 |s+1,p::l,hL,i,hi,v,w1,w2,hr,h=>by
  cases i with
  |zero=>exact hL.1 v w1 w2 hr h
  |succ i=>exact allMonoBut_at s l hL.2 i (fun e=>hi (by rw[e])) v w1 w2 hr h
theorem wp_region_store{P:Program}{id:Nat}{l:List Oper}{Q:Exit→Act→World→Prop}{tmps:Array Value}{df:List Deferred}{w:World}{fr:(Nat→Value)→Array Value}
  (g s:Nat) (L:List (Value→World→Prop)) (lates:List (Nat×Nat×Nat)) (pres:List Nat)
  (hm:P.follows .mixedOrders=true) (hok:(regOk l.toArray tmps.size&&lateOk l.toArray lates&&preOk l.toArray (pres.map fun k=>(k,s)))=true) (hfr:∀f,fillR l.toArray tmps f=fr f)
  (hmono:AllMono Ext L) (hmono2:AllMonoBut (Chg g) s L)
  (hstep:StepsL P fr lates (pres.map fun k=>(k,s)) tmps df w (Chg g) (fun j=>if j=s then Ext else fun _ _=>True) (fun j=>if j=s then Chg g else Ext) (pl L) l 0)
  (hend:∀f w1,Chg g w w1→AllPosts (pl L) f w1 l.length 0→Q .normal ⟨fr f,df⟩ w1):
  (Code.region id l.toArray true).wp P Q ⟨tmps,df⟩ w:=
 wp_region_go (Chg g) (fun j=>if j=s then Ext else fun _ _=>True) (fun j=>if j=s then Chg g else Ext) (pl L) lates (pres.map fun k=>(k,s)) hm hok hfr ((Ext.refl w).drew.chg g) (fun j=>by split;exact(Ext.refl w).drew;trivial)
  (fun i w1 w2 h k=>by
   by_cases hi:i=s
   ·rw[if_pos hi]at k;exact h.trans k
   ·rw[if_neg hi]at k;exact h.trans (k.chg g))
  (fun j i w1 w2 hi h k=>by
   by_cases hj:j=s
   ·subst hj;rw[if_pos rfl]at h ⊢;rw[if_neg hi]at k;exact h.trans k
   ·rw[if_neg hj];trivial)
  (fun i j v w1 w2 hij _ k hp=>by
   by_cases hj:j=s
   ·rw[if_pos hj]at k;exact allMonoBut_at s L hmono2 i (by omega) v w1 w2 k hp
   ·rw[if_neg hj]at k;exact allMono_at L hmono i v w1 w2 k hp)
  hstep hend
def Bx(t:TypeId)(w:World)(g:Nat)(cs:Array Value):Prop:=w.heap[g]? =some (.cells cs t (0,0))
section
variable {t:TypeId} {w w':World} {g:Nat} {cs:Array Value}
theorem Bx.new(w:World)(t:TypeId)(cs:Array Value):Bx t (w.alloc (.cells cs t)) w.heap.size cs:=heap_alloc_new w _
theorem Bx.ext(h:Bx t w g cs)(he:Ext w w'):Bx t w' g cs:=he.blk h
theorem Bx.chg{g0:Nat}(h:Bx t w g cs)(he:Chg g0 w w')(hne:g≠g0):Bx t w' g cs:=he.blk h hne
theorem Bx.cell(h:Bx t w g cs)(i:Nat):w.cell? ⟨g,i,none⟩=cs[i]? :=cell_of_row w g i _ t _ h
theorem Bx.free(h:Bx t w g cs)(i:Nat):w.frozen? ⟨g,i,none⟩=false:=frozen_of_row w g i _ t h
theorem Bx.set(h:Bx t w g cs)(i:Nat)(v:Value):Bx t (w.setCell ⟨g,i,none⟩ v) g (cs.setIfInBounds i v):=heap_setCell_same w g i _ t _ h
theorem Bx.lt(h:Bx t w g cs):g<w.heap.size:=blk_lt h
theorem Bx.setRow(h:Bx t w g cs)(cs':Array Value):Bx t (w.setRow g cs') g cs':=by
 unfold Bx World.setRow at*;simp only[Array.getElem?_modify,if_pos rfl,h]
 rfl
end
theorem Chg.setRow(w:World)(g:Nat)(cs:Array Value):Chg g w (w.setRow g cs):=
 ⟨rfl,rfl,rfl,by simp[World.setRow],fun k _ hne=>by
  have:k≠g:=by simpa using hne
  unfold World.setRow;simp only[Array.getElem?_modify]
  rw[if_neg (fun e=>this e.symm)]⟩
def ChgS(bs:List Nat)(w w':World):Prop:=w'.os=w.os∧w'.tape=w.tape∧w'.output=w.output∧w.heap.size≤w'.heap.size∧∀k,k<w.heap.size→k∉bs→w'.heap[k]? =w.heap[k]?
theorem ChgS.trans{bs:List Nat}{a b c:World}(h:ChgS bs a b)(k:ChgS bs b c):ChgS bs a c:=
 ⟨k.1.trans h.1,k.2.1.trans h.2.1,k.2.2.1.trans h.2.2.1,Nat.le_trans h.2.2.2.1 k.2.2.2.1,fun i hi n=>(k.2.2.2.2 i (Nat.lt_of_lt_of_le hi h.2.2.2.1) n).trans (h.2.2.2.2 i hi n)⟩
theorem Ext.chgS(bs:List Nat){a b:World}(h:Ext a b):ChgS bs a b:=⟨World.grownBy.os h,World.grownBy.tape h,World.grownBy.output h,h.size,fun _ hk _=>h.heap hk⟩
theorem Chg.chgS{g:Nat}{bs:List Nat}{a b:World}(h:Chg g a b)(hg:g∈bs):ChgS bs a b:=⟨World.grownBy.os h,World.grownBy.tape h,World.grownBy.output h,h.size,fun k hk n=>h.heap hk fun e=>n (by rw[e];exact hg)⟩
theorem ChgS.nil{w w':World}(h:ChgS [] w w'):Ext w w':=⟨h.1,h.2.1,h.2.2.1,h.2.2.2.1,fun k hk _=>h.2.2.2.2 k hk (by simp)⟩
theorem ChgS.blk{bs:List Nat}{w w':World}(h:ChgS bs w w'){g:Nat}{o:Obj}(hv:w.heap[g]? =some o)(hn:g∉bs):w'.heap[g]? =some o:=(h.2.2.2.2 g (blk_lt hv) hn).trans hv
theorem Bx.chgS{t:TypeId}{w w':World}{g:Nat}{cs:Array Value}{bs:List Nat}(h:Bx t w g cs)(he:ChgS bs w w')(hn:g∉bs):Bx t w' g cs:=he.blk h hn
theorem Ext.stepS{a w w':World}{bs:List Nat}(h:Ext a w)(k:ChgS bs w w')(hb:∀g∈bs,a.heap.size≤g):Ext a w':=
 ⟨k.1.trans (World.grownBy.os h),k.2.1.trans (World.grownBy.tape h),k.2.2.1.trans (World.grownBy.output h),Nat.le_trans h.size k.2.2.2.1,fun i hi _=>(k.2.2.2.2 i (Nat.lt_of_lt_of_le hi h.size) (fun hm=>by have:=hb i hm;omega)).trans (h.heap hi)⟩
structure PP (S:Nat) where
 c:Bool
 p:Value→World→Prop
 m:∀v w1 w2,Ext w1 w2→p v w1→p v w2
 m2:c=false→∀g,g<S→∀v w1 w2,Chg g w1 w2→p v w1→p v w2
def PP.val{S:Nat}(v:Value):PP S:=⟨false,fun u _=>u=v,fun _ _ _ _ h=>h,fun _ _ _ _ _ _ _ h=>h⟩
def PP.any{S:Nat}:PP S:=⟨false,fun _ _=>True,fun _ _ _ _ h=>h,fun _ _ _ _ _ _ _ h=>h⟩
def PP.isN{S:Nat}(k:IntKind)(B n:Nat):PP S:=⟨true,fun u w=>IsN k B w u n,fun _ _ _ h hp=>hp.ext h,fun h=>by cases h⟩
def PP.frN{S:Nat}(e:TypeId)(k:IntKind)(B n:Nat):PP S:=⟨false,fun u w=>FrN e k B S w u n,fun _ _ _ h hp=>hp.ext h,fun _ _ hg _ _ _ h hp=>hp.chg h hg⟩
structure St (S:Nat) where
 s:Nat
 g:Nat
 t:TypeId
 F:PP S
def stAt{S:Nat}:List (St S)→Nat→Option (St S)
 | [],_=>none
 |x::l,k=>if k=x.s then some x else stAt l k
theorem stAt_mem{S:Nat}{l:List (St S)}{k:Nat}{x:St S}(h:stAt l k=some x):x∈l∧x.s=k:=by
 induction l with
 |nil=>cases h
 |cons y l ih=>
  simp only[stAt]at h
  split at h
  ·cases h;exact⟨List.mem_cons_self ..,by omega⟩
  ·exact⟨List.mem_cons_of_mem _ (ih h).1,(ih h).2⟩
def postD{S:Nat}(w:World)(sts:List (St S))(L:List (PP S))(k:Nat)(v:Value)(w1:World):Prop:=
 match stAt sts k with
 |some x=>∃cs,Bx x.t w1 x.g cs∧x.F.p (.agg cs) w1
 |none=>((L.getD k PP.any).c=true→Ext w w1)→(L.getD k PP.any).p v w1
theorem postsOf_nth{post:Nat→Value→World→Prop}{f:Nat→Value}{w:World}:∀(l:List Edge) (n j:Nat),(match l[n]? with |some e=>Region.binds .any e&&e.on==j |none=>false)=true→PostsOf post f w l→post j (f j) w
 | [],n,j,h,_=>by simp at h
 |e::l,0,j,h,hp=>by
  simp only[List.getElem?_cons_zero,Bool.and_eq_true,beq_iff_eq]at h;rw[←h.2];exact hp.1 h.1
 |e::l,n+1,j,h,hp=>postsOf_nth l n j (by simpa using h) hp.2
theorem tellV{S:Nat}{w w1:World}{sts:List (St S)}{L:List (PP S)}{f:Nat→Value}{l:List Edge}(hp:PostsOf (postD w sts L) f w1 l)(n j:Nat)
  (h:(match l[n]? with |some e=>Region.binds .any e&&e.on==j |none=>false)=true) (hs:stAt sts j=none) (hc:(L.getD j PP.any).c=true→Ext w w1):(L.getD j PP.any).p (f j) w1:=by
 have:=postsOf_nth l n j h hp
 unfold postD at this;rw[hs]at this;exact this hc
theorem allPosts_nth{post:Nat→Value→World→Prop}{f:Nat→Value}{w:World}:∀(n k j:Nat),k≤j→j<k+n→AllPosts post f w n k→post j (f j) w
 |0,k,j,h1,h2,_=>by omega
 |n+1,k,j,h1,h2,h=>by
  by_cases hk:k=j
  ·subst hk;exact h.1
  ·exact allPosts_nth n (k+1) j (by omega) (by omega) h.2
theorem endS{S:Nat}{w w1:World}{sts:List (St S)}{L:List (PP S)}{f:Nat→Value}{n:Nat}(hp:AllPosts (postD w sts L) f w1 n 0)(k:Nat)(hk:k<n):postD w sts L k (f k) w1:=
 allPosts_nth n 0 k (Nat.zero_le _) (by omega) hp
theorem endV{S:Nat}{w w1:World}{sts:List (St S)}{L:List (PP S)}{f:Nat→Value}{n:Nat}(hp:AllPosts (postD w sts L) f w1 n 0)(j:Nat)(hk:j<n)(hs:stAt sts j=none)(hc:(L.getD j PP.any).c=true→Ext w w1):(L.getD j PP.any).p (f j) w1:=by
 have:=endS hp j hk
 unfold postD at this;rw[hs]at this;exact this hc
def ancOk(ops:Array Oper):List Nat→List Nat→Bool
 |_,[]=>true
 |done,k::rest=>(done.any fun j=>(ops[j]?).any fun o=>o.after.toList.any fun e=>Region.binds .any e&&e.on==k)&&ancOk ops (k::done) rest
theorem anc_of{ops:Array Oper}{s:Nat}:∀(rest done:List Nat),(∀j∈done,Anc ops j s)→ancOk ops done rest=true→∀k∈rest,Anc ops k s
 | [],_,_,_,k,hk=>by cases hk
 |k0::rest,done,hd,h,k,hk=>by
  simp only[ancOk,Bool.and_eq_true]at h;obtain⟨h1,h2⟩:=h;obtain⟨j,hj,hj2⟩:=List.any_eq_true.1 h1
  cases ho:ops[j]? with
  |none=>rw [ho]at hj2;cases hj2
  |some o=>
   rw[ho]at hj2;obtain⟨e,he,he2⟩:=List.any_eq_true.1 hj2;simp only[Bool.and_eq_true,beq_iff_eq]at he2
   have hk0:Anc ops k0 s:=by
    refine Anc.trans (.edge ho (Array.mem_toList_iff.1 he) he2.1 ?_) (hd j hj);rw[he2.2];exact .self
   rcases List.mem_cons.1 hk with rfl |hk
   ·exact hk0
   ·exact anc_of rest (k0::done) (fun j hj=>by rcases List.mem_cons.1 hj with rfl |hj;exact hk0;exact hd j hj) h2 k hk
def OweD{S:Nat}(P:Program)(fr:(Nat→Value)→Array Value)(df:List Deferred)(w:World)(sts:List (St S))(L:List (PP S))(lates:List (Nat×Nat×Nat))(tmps:Array Value)(pre:List Nat)(k:Nat)(o:Oper):Prop:=
 ∀f w1,(if pre.contains k then Ext w w1 else ChgS (sts.map (·.g)) w w1)→PostsOf (postD w sts L) f w1 o.after.toList→LateFacts tmps f k lates→
  match stAt sts k with
  |some x=>w1.heap[x.g]? =w.heap[x.g]? →OpGoal P o ⟨fr f,df⟩ f w1 (Chg x.g) (fun _ w2=>∃cs,Bx x.t w2 x.g cs∧x.F.p (.agg cs) w2)
  |none=>OpGoal P o ⟨fr f,df⟩ f w1 Ext (L.getD k PP.any).p
def OwesD{S:Nat}(P:Program)(fr:(Nat→Value)→Array Value)(df:List Deferred)(w:World)(sts:List (St S))(L:List (PP S))(lates:List (Nat×Nat×Nat))(tmps:Array Value)(pre:List Nat):List Oper→Nat→Prop
 | [],_=>True
 |o::l,k=>OweD P fr df w sts L lates tmps pre k o∧OwesD P fr df w sts L lates tmps pre l (k+1)
theorem owesD_at{S:Nat}{P:Program}{fr:(Nat→Value)→Array Value}{df:List Deferred}{w:World}{sts:List (St S)}{L:List (PP S)}{lates:List (Nat×Nat×Nat)}{tmps:Array Value}{pre:List Nat}:
  ∀(l:List Oper) (k:Nat),OwesD P fr df w sts L lates tmps pre l k→∀i o,l[i]? =some o→OweD P fr df w sts L lates tmps pre (k+i) o
 | [],_,_,i,o,h=>by simp at h
 |x::l,k,hs,i,o,h=>by
  cases i with
  |zero=>
   simp only[List.getElem?_cons_zero,Option.some.injEq]at h;subst h;exact hs.1
  |succ i=>
   have:=owesD_at l (k+1) hs.2 i o (by simpa using h)
   rwa [show k+1+i=k+(i+1)by omega]at this
theorem wp_region_puts{P:Program}{id:Nat}{l:List Oper}{Q:Exit→Act→World→Prop}{tmps:Array Value}{df:List Deferred}{w:World}{fr:(Nat→Value)→Array Value}
  (sts:List (St w.heap.size)) (L:List (PP w.heap.size)) (lates:List (Nat×Nat×Nat)) (pre:List Nat)
  (hm:P.follows .mixedOrders=true) (hok:(regOk l.toArray tmps.size&&lateOk l.toArray lates&&(sts.map (·.s)).all fun s=>ancOk l.toArray [s] (pre.filter (· !=s)))=true)
  (hfr:∀f,fillR l.toArray tmps f=fr f)
  (hlt:∀x∈sts,x.g<w.heap.size∧x.F.c=false) (hs:∀x∈sts,stAt sts x.s=some x) (hne:∀x∈sts,∀y∈sts,x.s≠y.s→x.g≠y.g)
  (hstep:OwesD P fr df w sts L lates tmps pre l 0)
  (hend:∀f w1,ChgS (sts.map (·.g)) w w1→AllPosts (postD w sts L) f w1 l.length 0→Q .normal ⟨fr f,df⟩ w1):
  (Code.region id l.toArray true).wp P Q ⟨tmps,df⟩ w:=by
 simp only[Bool.and_eq_true]at hok;obtain⟨⟨hok1,hok2⟩,hok3⟩:=hok
 have key:∀{w1 w2:World} {g:Nat},ChgS (sts.map (·.g)) w w1→w1.heap[g]? =w.heap[g]? →Chg g w1 w2→Ext w w2→g<w.heap.size→Ext w w1∧Ext w1 w2:=by
  intro w1 w2 g hG hg hR hE hgl
  have e1:Ext w w1:=⟨hG.1,hG.2.1,hG.2.2.1,hG.2.2.2.1,fun i hi _=>by
   by_cases hig:i=g
   ·rw[hig];exact hg
   ·rw[←hR.heap (Nat.lt_of_lt_of_le hi hG.2.2.2.1) hig];exact hE.heap hi⟩
  refine⟨e1,World.grownBy.os hR,World.grownBy.tape hR,World.grownBy.output hR,hR.size,fun i hi _=> ?_⟩
  by_cases hig:i=g
  ·rw[hig,hE.heap hgl,hg]
  ·exact hR.heap hi hig
 refine wp_region_posts (D:=fun _ _ _=>True) (G:=ChgS (sts.map (·.g))) (G0:=fun s w w1=>w.heap.size≤w1.heap.size∧∀x,stAt sts s=some x→w1.heap[x.g]? =w.heap[x.g]?)
  (R:=fun i w1 w2=>match stAt sts i with |some x=>Chg x.g w1 w2∧w1.heap[x.g]? =w.heap[x.g]? |none=>Ext w1 w2) (post:=postD w sts L) hm hok1 (fun _=>trivial) ((Ext.refl w).drew.chgS _) (fun s=>⟨(Ext.refl w).drew.size,fun _ _=>rfl⟩) ?_ ?_ ?_ ?_ ?_
 ·intro i w1 w2 hG hR
  cases hx:stAt sts i with
  |none=>rw [hx]at hR;exact hG.trans (hR.chgS _)
  |some x=>rw [hx]at hR;exact hG.trans (hR.1.chgS (List.mem_map.2 ⟨x,(stAt_mem hx).1,rfl⟩))
 ·intro s i w1 w2 his h hR
  have hsz:w1.heap.size≤w2.heap.size:=by
   cases hx:stAt sts i with
   |none=>rw [hx]at hR;exact hR.size
   |some x=>rw [hx]at hR;exact hR.1.size
  refine⟨Nat.le_trans h.1 hsz,fun y hy=> ?_⟩;have hyl:=(hlt y (stAt_mem hy).1).1
  cases hx:stAt sts i with
  |none=>rw [hx]at hR;exact(hR.heap (by have:=h.1;omega)).trans (h.2 y hy)
  |some x=>
   rw[hx]at hR
   have:=hne y (stAt_mem hy).1 x (stAt_mem hx).1 (by rw[(stAt_mem hy).2,(stAt_mem hx).2];omega)
   exact(hR.1.heap (by have:=h.1;omega) this).trans (h.2 y hy)
 ·intro i j v w1 w2 hij hG hR hp;unfold postD at hp ⊢
  cases hxj:stAt sts j with
  |none=>
   rw[hxj]at hR
   cases hxi:stAt sts i with
   |some x=>
    rw[hxi]at hp;obtain⟨cs,h1,h2⟩:=hp;exact⟨cs,h1.ext hR,x.F.m _ _ _ hR h2⟩
   |none=>
    rw[hxi]at hp;intro hE;refine(L.getD i PP.any).m _ _ _ hR (hp fun hc=> ?_);have hE:=hE hc;exact⟨hG.1,hG.2.1,hG.2.2.1,hG.2.2.2.1,fun k hk _=>by rw[←hR.heap (Nat.lt_of_lt_of_le hk hG.2.2.2.1)];exact hE.heap hk⟩
  |some x=>
   rw[hxj]at hR;have hxl:=hlt x (stAt_mem hxj).1
   cases hxi:stAt sts i with
   |some y=>
    rw[hxi]at hp;obtain⟨cs,h1,h2⟩:=hp
    have:=hne y (stAt_mem hxi).1 x (stAt_mem hxj).1 (by rw[(stAt_mem hxi).2,(stAt_mem hxj).2];omega)
    exact⟨cs,h1.chg hR.1 this,y.F.m2 (hlt y (stAt_mem hxi).1).2 _ hxl.1 _ _ _ hR.1 h2⟩
   |none=>
    rw[hxi]at hp;intro hE
    cases hc:(L.getD i PP.any).c with
    |true=>
     obtain⟨e1,e2⟩:=key hG hR.2 hR.1 (hE hc) hxl.1;exact(L.getD i PP.any).m _ _ _ e2 (hp fun _=>e1)
    |false=>exact (L.getD i PP.any).m2 hc _ hxl.1 _ _ _ hR.1 (hp fun h=>by rw[hc]at h;cases h)
 ·intro i o ho listed f w1 _ _ _ hG hpre hp hl;have hO:=owesD_at l 0 hstep i o (by simpa using ho);rw[Nat.zero_add]at hO;rw[hfr]
  have hE:(if pre.contains i then Ext w w1 else ChgS (sts.map (·.g)) w w1):=by
   split
   ·rename_i hpi
    refine⟨hG.1,hG.2.1,hG.2.2.1,hG.2.2.2.1,fun k hk _=> ?_⟩
    by_cases hk2:k∈sts.map (·.g)
    ·obtain⟨x,hx,rfl⟩:=List.mem_map.1 hk2;have hxs:=List.all_eq_true.1 hok3 x.s (List.mem_map.2 ⟨x,hx,rfl⟩)
     have hanc:Anc l.toArray i x.s:=by
      by_cases his:i=x.s
      ·rw[his];exact .self
      ·refine anc_of _ [x.s] (fun j hj=> ?_) hxs i (List.mem_filter.2 ⟨by simpa using hpi,by simpa using his⟩)
       have:j=x.s:=by simpa using hj
       rw[this];exact .self
     have h2:=(hpre x.s hanc).2;exact h2 x (hs x hx)
    ·exact hG.2.2.2.2 k hk hk2
   ·exact hG
  have hg:=hO f w1 hE (postsOf_of _ fun e he hb=>hp e (Array.mem_toList_iff.1 he) hb) (lateFacts_of hl lates hok2);unfold postD
  cases hx:stAt sts i with
  |none=>
   simp only[hx]at hg;exact OpGoal.mono (fun _ h=>by simp only[hx];exact h) (fun v w' _ h=>⟨by simp only[hx];exact fun _=>h,trivial⟩) (fun h=>⟨by simp only[hx];exact fun _=>h,trivial⟩) hg
  |some x=>
   simp only[hx]at hg;have h0:=(hpre i .self).2 x hx;exact OpGoal.mono (fun w' h=>by simp only[hx];exact⟨h,h0⟩) (fun v w' _ h=>⟨by simp only[hx];exact h,trivial⟩) (fun h=>⟨by simp only[hx];exact h,trivial⟩) (hg h0)
 ·intro f w1 hG hp _;rw[hfr];exact hend f w1 hG (allPosts_of _ _ fun i _ hi=>hp i (by simpa using hi))
theorem tE{S:Nat}{w w1:World}{sts:List (St S)}{L:List (PP S)}{f:Nat→Value}{l:List Edge}{v:Value}(hp:PostsOf (postD w sts L) f w1 l)(n j:Nat)
  (h:(match l[n]? with |some e=>Region.binds .any e&&e.on==j |none=>false)=true) (hs:stAt sts j=none) (hv:L[j]? =some (PP.val v)):f j=v:=by
 have hL:L.getD j PP.any=PP.val v:=by rw[List.getD_eq_getElem?_getD,hv];rfl
 have:=tellV hp n j h hs (by rw[hL];intro h;cases h)
 rw[hL]at this;exact this
theorem wpP{P:Program}{id:Nat}{l:List Oper}{Q:Exit→Act→World→Prop}{tmps:Array Value}{df:List Deferred}{w:World}{fr:(Nat→Value)→Array Value}
  (sts:List (St w.heap.size)) (L:List (PP w.heap.size)) (lates:List (Nat×Nat×Nat)) (pre:List Nat)
  (hlt:∀x∈sts,x.g<w.heap.size∧x.F.c=false) (hs:∀x∈sts,stAt sts x.s=some x) (hne:∀x∈sts,∀y∈sts,x.s≠y.s→x.g≠y.g)
  (hstep:OwesD P fr df w sts L lates tmps pre l 0)
  (hend:∀f w1,ChgS (sts.map (·.g)) w w1→AllPosts (postD w sts L) f w1 l.length 0→Q .normal ⟨fr f,df⟩ w1)
  (hm:P.follows .mixedOrders=true:=by kernel_rfl) (hok:(regOk l.toArray tmps.size&&lateOk l.toArray lates&&(sts.map (·.s)).all fun s=>ancOk l.toArray [s] (pre.filter (· !=s)))=true:=by kernel_rfl)
  (hfr:∀f,fillR l.toArray tmps f=fr f:=by intro f;simp only[fillR,fillL,List.setIfInBounds_toArray,List.set_cons_succ,List.set_cons_zero,Nat.reduceAdd];rfl):
  (Code.region id l.toArray true).wp P Q ⟨tmps,df⟩ w:=wp_region_puts sts L lates pre hm hok hfr hlt hs hne hstep hend
theorem wpQ{P:Program}{id:Nat}{l:List Oper}{Q:Exit→Act→World→Prop}{tmps:Array Value}{df:List Deferred}{w:World}{fr:(Nat→Value)→Array Value}
  (L:List (PP w.heap.size)) (lates:List (Nat×Nat×Nat)) (pre:List Nat)
  (hstep:OwesD P fr df w [] L lates tmps pre l 0)
  (hend:∀f w1,ChgS (([]:List (St w.heap.size)).map (·.g)) w w1→AllPosts (postD w [] L) f w1 l.length 0→Q .normal ⟨fr f,df⟩ w1)
  (hm:P.follows .mixedOrders=true:=by kernel_rfl) (hok:(regOk l.toArray tmps.size&&lateOk l.toArray lates&&(([]:List (St w.heap.size)).map (·.s)).all fun s=>ancOk l.toArray [s] (pre.filter (· !=s)))=true:=by kernel_rfl)
  (hfr:∀f,fillR l.toArray tmps f=fr f:=by intro f;simp only[fillR,fillL,List.setIfInBounds_toArray,List.set_cons_succ,List.set_cons_zero,Nat.reduceAdd];rfl):
  (Code.region id l.toArray true).wp P Q ⟨tmps,df⟩ w:=wp_region_puts [] L lates pre hm hok hfr (fun x hx=>by cases hx) (fun x hx=>by cases hx) (fun x hx=>by cases hx) hstep hend
section
variable {P:Program} {o:Oper} {a:Act} {f:Nat→Value} {w:World} {post:Value→World→Prop}
theorem og_call{fn:Func}(F:FuncId)(xs:Array Operand)(ts:Array TypeId)(args:Array Value)(hf:P.funcs[F]? =some fn)(hn:(fn.name== "runtime.NumGoroutine")=false)(hb:fn.body.isNone=false)(hgd:o.guard=none)(ho:o.op= .call {callee:= .value (.func F),args:=xs,argTypes:=ts})
  (ha:xs.map a.eval=args) (hc:Calls P F args w fun e w'=>∃v,e= .returned v∧Ext w w'∧post v w'):OpGoal P o a f w Ext post:=by
 unfold OpGoal;rw[hgd];unfold Oper.wp
 have hrun:(execOp a.eval o).run P w= .ok (.enter F args) w:=by
  subst ha
  have h1:fn.name≠ "runtime.NumGoroutine" :=by simpa using hn
  have h2:¬fn.body=none:=by intro h;simp[h]at hb
  simp[execOp,ho,resolve,Deferred.ofValue,Act.eval,invoke,callFunc,hf,h1,h2]
 rw[hrun,Oper.upon_enter];refine hc.mono ?_;rintro e w' ⟨v,rfl,h1,h2⟩;exact⟨v,rfl,h1,h2⟩
theorem oC{fn:Func}{F:FuncId}{xs:Array Operand}{ts:Array TypeId}(args:Array Value)(hf:P.funcs[F]? =some fn)(hgd:o.guard=none)(ho:o.op= .call {callee:= .value (.func F),args:=xs,argTypes:=ts})
  (hc:Calls P F args w fun e w'=>∃v,e= .returned v∧Ext w w'∧post v w') (hn:(fn.name== "runtime.NumGoroutine")=false:=by kernel_rfl) (hb:fn.body.isNone=false:=by kernel_rfl) (ha:xs.map a.eval=args:=by kernel_rfl):OpGoal P o a f w Ext post:=
 og_call F xs ts args hf hn hb hgd ho ha hc
theorem og_load(ty:TypeId)(x:Operand)(g:Nat)(t:TypeId)(cs:Array Value)(d:TypeDesc)(hgd:o.guard=none)(ho:o.op= .load ty x)(hx:a.eval x= .pointer (some ⟨g,0,none⟩))(hg:Bx t w g cs)
  (hu:P.underlying ty=some d) (hd:(match d with | .struct _ | .array _ _=>true |_=>false)=true) (hi:(P.info? ty).map (·.size)=some cs.size) (hp:post (.agg cs) w):OpGoal P o a f w Ext post:=by
 unfold OpGoal;rw[hgd];exact wp_load_row ty x ho g hx t cs _ d hg hu hd hi ⟨_,rfl,Ext.refl w,hp⟩
theorem og_store(ty:TypeId)(x y:Operand)(g:Nat)(t:TypeId)(old cells:Array Value)(F:Value→World→Prop)(hgd:o.guard=none)(ho:o.op= .store ty x y)(hx:a.eval x= .pointer (some ⟨g,0,none⟩))(hy:a.eval y= .agg cells)
  (hg:Bx t w g old) (hi:(P.info? ty).map (·.size)=some cells.size) (hold:old.size=cells.size) (h1:cells.all (·.oneCell')=true) (hF:∀w',Chg g w w'→F (.agg cells) w'):
  OpGoal P o a f w (Chg g) (fun _ w2=>∃cs,Bx t w2 g cs∧F (.agg cs) w2):=by
 unfold OpGoal;rw[hgd];exact wp_store_row ty x y ho g cells hx hy t old hg hi hold h1 ⟨_,rfl,Chg.setRow w g cells,cells,hg.setRow cells,hF _ (Chg.setRow w g cells)⟩
end
section
variable {P:Program} {fn:Func} {R:Ending→World→Prop} {a:Act} {w:World}
theorem ret_box(p:Tmp)(ty:TypeId)(g:Nat)(t:TypeId)(cs:Array Value)(d:TypeDesc)(h:fn.results=#[.cell p ty])(hp:a.tmps.getD p undef= .pointer (some ⟨g,0,none⟩))(hg:Bx t w g cs)
  (hu:P.underlying ty=some d) (hd:(match d with | .struct _ | .array _ _=>true |_=>false)=true) (hi:(P.info? ty).map (·.size)=some cs.size) (hdf:a.defers=[]) (hR:R (.returned (.agg cs)) w):bodyPost P fn R .ret a w:=
 bodyPost_ret (results_cell_row h a.tmps w g t cs _ d hp hg hu hd hi) hdf hR
theorem ret_box2(p u:Tmp)(ty:TypeId)(g:Nat)(t:TypeId)(cs:Array Value)(d:TypeDesc)(v:Value)(h:fn.results=#[.cell p ty,.tmp u])(hp:a.tmps.getD p undef= .pointer (some ⟨g,0,none⟩))(hv:a.tmps.getD u undef=v)(hg:Bx t w g cs)
  (hu:P.underlying ty=some d) (hd:(match d with | .struct _ | .array _ _=>true |_=>false)=true) (hi:(P.info? ty).map (·.size)=some cs.size) (hdf:a.defers=[]) (hR:R (.returned (.tuple #[.agg cs,v])) w):bodyPost P fn R .ret a w:=by
 subst hv;refine bodyPost_ret (v:= .tuple #[.agg cs,a.tmps.getD u undef]) ?_ hdf hR
 have hp':a.tmps[p]?.getD undef= .pointer (some ⟨g,0,none⟩):=by simpa using hp
 simp[results,h,hp',asAddr,run_loadVar_row w g t ty cs _ d hg hu hd hi]
end
theorem all2{a b:Value}(ha:a.oneCell'=true)(hb:b.oneCell'=true):(#[a,b].all (·.oneCell'))=true:=by simp[ha,hb]
theorem all3{a b c:Value}(ha:a.oneCell'=true)(hb:b.oneCell'=true)(hc:c.oneCell'=true):(#[a,b,c].all (·.oneCell'))=true:=by simp[ha,hb,hc]
theorem alloc_size(w:World)(o:Obj):(w.alloc o).heap.size=w.heap.size+1:=by show(w.heap.push o).size=_;simp
theorem alloc1(w:World)(A:Array Value)(ta:TypeId):∃w1,w1=w.alloc (.cells A ta)∧Ext w w1∧Bx ta w1 w.heap.size A∧w1.heap.size=w.heap.size+1:=
 ⟨_,rfl,(Ext.refl w).alloc _,Bx.new w ta A,alloc_size w _⟩
theorem alloc2(w:World)(A B:Array Value)(ta tb:TypeId):∃w1,w1=(w.alloc (.cells A ta)).alloc (.cells B tb)∧Ext w w1∧Bx ta w1 w.heap.size A∧Bx tb w1 (w.heap.size+1) B∧w1.heap.size=w.heap.size+2:=by
 obtain⟨w1,h1,e1,b1,s1⟩:=alloc1 w A ta;rw[←h1];obtain⟨w2,h2,e2,b2,s2⟩:=alloc1 w1 B tb;rw[s1]at b2 s2;exact⟨w2,h2,e1.trans e2,b1.ext e2,b2,s2⟩
theorem alloc3(w:World)(A B C:Array Value)(ta tb tc:TypeId):∃w1,w1=((w.alloc (.cells A ta)).alloc (.cells B tb)).alloc (.cells C tc)∧Ext w w1∧Bx ta w1 w.heap.size A∧Bx tb w1 (w.heap.size+1) B∧Bx tc w1 (w.heap.size+2) C∧w1.heap.size=w.heap.size+3:=by
 obtain⟨w1,h1,e1,b1,b2,s1⟩:=alloc2 w A B ta tb;rw[←h1];obtain⟨w2,h2,e2,b3,s2⟩:=alloc1 w1 C tc;rw[s1]at b3 s2;exact⟨w2,h2,e1.trans e2,b1.ext e2,b2.ext e2,b3,s2⟩
end Go.Proofs.YthoibjnkhkjnjaaGreat
