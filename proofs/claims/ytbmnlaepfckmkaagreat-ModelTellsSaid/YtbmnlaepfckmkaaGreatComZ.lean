/-
 What every layer above the fractions uses: arguments opened, results opened, sizes, memory written over, lists of fractions.
-/
import Derived.Test.YtbmnlaepfckmkaaGreatRtfZ
import Derived.ProofKit
import Derived.OpenShut
import Derived.Carry
import Derived.ChangeSlices
import Derived.Great.BuildSlice
import Derived.Deep.Slices
namespace Go.Proofs.YtbmnlaepfckmkaaGreat
set_option maxRecDepth 100000
set_option maxHeartbeats 1000000
open Go.RowKit
set_option linter.unusedVariables false
set_option linter.unusedSimpArgs false
theorem same_true(v u:Value)(q:Rat)(B0 B1:Nat)(w:World)(hv:FrQ B0 w v q)(hu:FrQ B1 w u q):
  Calls Tryz.prog 58 #[v,u] w fun e w'=>e= .returned (.bool true)∧Ext w w':=by
 refine(rqsame3_calls v u _ _ _ _ _ _ w hv.raw hu.raw).mono ?_;rintro e w' ⟨rfl,h⟩;exact⟨by simp,h⟩
theorem szT_small{z:Int}(h:z.natAbs≤9223372036854775808):szT z≤5:=by
 refine dg_len_le TK_gt ?_;rw[TK_eq]
 have:(10000:Nat)^5=100000000000000000000:=by decide
 omega
section
open Go.ChangeShapes Go.WideShapes Go.ChangeAt
variable {H:Type} {enc:TypeId×Value→H} {P:Program}
theorem post_of_ext{f:Func}{s:ChangeSpec}{apart fresh handsOn again:Bool}{W W':World}{args:Array Value}{v:Value}{ds gs:List (DataW H)}{before pa pv:List MemPlace}
  (hW:DataW.Whole enc P f.params.toList s.vars apart W args.toList ds gs before)
  (hres:∀(b:Nat) (sp:Nat→Bool) (hd:Bool),DataW.TrodAll enc P W' b sp hd f.resultTypes.toList (v.resultList f.resultTypes.size) (s.fn H (ds++gs)).results [])
  (hargs:∀sp:Nat→Bool,(∀p∈before,sp p.block=true)→DataW.TrodAll enc P W' 0 sp true f.params.toList args.toList (s.fn H (ds++gs)).args pa)
  (hvars:∀sp:Nat→Bool,(∀p∈before,sp p.block=true)→DataW.TrodVars enc P W' sp s.vars (s.fn H (ds++gs)).vars pv)
  (hps:before=pa++pv) (hE:Ext W W')
  (hok:∀(j:Nat) (t:TypeId) (r:Value),f.resultTypes[j]? =some t→(v.resultList f.resultTypes.size)[j]? =some r→Value.okWide P W' .any 0 t r):
  s.post enc P f apart fresh handsOn again W args v W':=by
 have hold:∀p∈before,(fun b=>decide (b<W.heap.size)) p.block=true:=fun p hp=>by simpa using hW.lt p hp
 refine⟨ds,gs,before,[],pa,pv,hW,hres _ _ _,hargs _ hold,hvars _ hold,World.keptBut_mono (fun p hp=>⟨hp,?_⟩) (hE.below.frame _),fun _=> ?_⟩
 ·rw[hps,List.mem_append]at hp;exact Or.inr hp
 ·have hlt:=hW.lt;obtain⟨_,_,_,_,_,hz,hn⟩:=hW;refine⟨hok,_,_,([]++pa)++pv,⟨[]++pa,pv,trodAll_append (hargs _ (fun _ _=>rfl)) (hres _ _ _),hvars _ (fun _ _=>rfl),rfl,?_,?_⟩,?_⟩
  ·intro b off hp;have h0:=hz b off (by rw[hps];simpa using hp);rw[Ext.frozen hE b off (hlt (.cell b off) (by rw[hps];simpa using hp))];exact h0
  ·intro ha
   have:=hn ha
   rw[hps]at this
   simpa using this
  ·intro p hp _;rw[hps]
   simpa using hp
end
theorem FrQ.opn{B0:Nat}{w:World}{v:Value}{q:Rat}(h:FrQ B0 w v q):∃b ad l cap ad2 l2 cap2,v= .agg #[.bool b,.slice ad l cap,.slice ad2 l2 cap2]∧FrQ B0 w (.agg #[.bool b,.slice ad l cap,.slice ad2 l2 cap2]) q:=by
 have h':=h;obtain⟨s,t,rfl,hn,hm⟩:=h;obtain⟨ad,cap,rfl⟩:=hn.slice;obtain⟨ad2,cap2,rfl⟩:=hm.slice;exact⟨_,_,_,_,_,_,_,rfl,h'⟩
open Go.ChangeShapes Go.WideShapes Go.ChangeAt
section
variable {H:Type} {enc:TypeId×Value→H} {P:Program} {w:World}
theorem trodAll_ext(hl:laidOutB P=true){W W':World}(hE:Ext W W')(sp:Nat→Bool):∀{ts:List TypeId} {vs:List Value} {ds:List (DataW H)} {ps:List MemPlace},
  (∀t∈ts,P.readableRec t=true∧t<P.types.size)→DataW.TrodAll enc P W 0 (fun _=>true) true ts vs ds ps→(∀x∈ps,x.block<W.heap.size)→(∀x∈ps,sp x.block=true)→DataW.TrodAll enc P W' 0 sp true ts vs ds ps
 | [],vs,ds,ps,_,h,_,_=>by
  obtain⟨rfl,rfl,rfl⟩:=trodAll_nil h;exact trodAll_mk0
 |t::ts,vs,ds,ps,ht,h,hlt,hsp=>by
  obtain⟨v,vs',d,ds',p,q,rfl,rfl,rfl,h1,h2⟩:=trodAll_cons h;have h0:=ht t (List.mem_cons_self ..);exact trodAll_cons_mk (WideElems.Trod_stays hl h0.1 h0.2 h1 (fun x hx=>hE.below.same (hlt x (List.mem_append_left _ hx))) (fun x hx=>hsp x (List.mem_append_left _ hx)))
   (trodAll_ext hl hE sp (fun t' ht'=>ht t' (List.mem_cons_of_mem _ ht')) h2 (fun x hx=>hlt x (List.mem_append_right _ hx)) (fun x hx=>hsp x (List.mem_append_right _ hx)))
def wordsIn{H:Type}(d:DataW H)(n:Nat):Prop:=(d= .nil∧n=0)∨∃es rs,d= .slice es rs∧es.length=n
def wordsI{H:Type}(d:DataW H)(n:Nat):Prop:=∃d0 d1,d= .agg [d0,d1]∧wordsIn d1 n
def wordsQ{H:Type}(d:DataW H)(n m:Nat):Prop:=∃d0 d1,d= .agg [d0,d1]∧wordsI d0 n∧wordsIn d1 m
theorem open_words{base:Nat}{spare:Nat→Bool}{held:Bool}{t e:TypeId}{fuel:Nat}{cs:List Value}{x:DataW H×List MemPlace}(ht:P.underlying t=some (.slice e))(he:P.underlying e=some (.int .u64))(hc:P.cellsOf e=1)(hby:1≤P.bytesOf e)
  (h:DataW.trod enc P w base spare held fuel t cs=some x):∃v xs,cs=[v]∧IsL .u64 w v xs∧Dig W xs∧(∀B,(∀n∈x.1.weights P t,n≤B)→xs.length≤B)∧wordsIn x.1 xs.length:=by
 rcases open_ints ht he hc h with⟨rfl,hx0⟩ |⟨a,len,cap,zs,rfl,_,hl,hm,hzl,hx,hcell,hwf⟩
 ·exact⟨_,[],rfl,⟨none,0,rfl,Nat.le_refl _,by omega,Rd.nil _ _⟩,Dig.nil,fun B _=>Nat.zero_le B,.inl ⟨by rw[hx0],rfl⟩⟩
 ·have hlz:len≤zs.length:=by rw[hzl];split<;>omega
  have hnn:∀z∈zs,0≤z∧z≤18446744073709551615:=fun z hz=>bounds_u64 (hwf z hz)
  refine⟨_,(zs.take len).map Int.toNat,rfl,⟨some a,cap,by rw[List.length_map,List.length_take];congr 1;omega,by rw[List.length_map,List.length_take];omega,by unfold maxLen at hm;omega,?_⟩,?_,?_,?_⟩
  ·rcases Nat.eq_zero_or_pos len with h0 |h0
   ·subst h0;exact .inl (by simp[vals])
   ·obtain⟨b,off,rfl,hc2⟩:=ints_at hcell (by omega);refine .inr ⟨b,off,rfl,fun i v hi=> ?_⟩
    have hil:i<len:=by
     have:=(List.getElem?_eq_some_iff.1 hi).1
     rw[vals_length,List.length_map,List.length_take]at this
     omega
    have hiz:i<zs.length:=by omega
    rw[hc2 i hiz,←hi];have hz:=hnn zs[i] (List.getElem_mem hiz)
    simp[vals,List.getElem?_map,hil,hiz,List.getD]
    omega
  ·intro y hy;obtain⟨z,hz,rfl⟩:=List.mem_map.1 hy
   have:=hnn z (List.mem_of_mem_take hz)
   rw[W_eq]
   omega
  ·intro B hB;subst hx
   have:=hB (((lits (H:=H) .u64 (zs.take len)).length+(lits (H:=H) .u64 (zs.drop len)).length)*P.bytesOf e) (by simp[DataW.weights,ht])
   rw[List.length_map]
   have h1:(lits (H:=H) .u64 (zs.take len)).length=(zs.take len).length:=by simp[lits]
   rw[h1]at this;have h2:(zs.take len).length*1≤((zs.take len).length+(lits (H:=H) .u64 (zs.drop len)).length)*P.bytesOf e:=Nat.mul_le_mul (Nat.le_add_right _ _) hby
   omega
  ·subst hx;exact .inr ⟨_,_,rfl,by simp[lits]⟩
end
theorem bytesW:1≤Tryz.prog.bytesOf 173:=by decide+kernel
theorem cellsW:Tryz.prog.cellsOf 173=1:=by kernel_rfl
theorem cellsI:Tryz.prog.cellsOf 39=2:=by kernel_rfl
theorem cellsQ:Tryz.prog.cellsOf 41=3:=by kernel_rfl
theorem cellsB:Tryz.prog.cellsOf 4=1:=by kernel_rfl
theorem cellsS:Tryz.prog.cellsOf 37=1:=by kernel_rfl
section
variable {H:Type} {enc:TypeId×Value→H} {w:World} {base:Nat} {spare:Nat→Bool} {held:Bool}
theorem open_bool1{fuel:Nat}{cs:List Value}{x:DataW H×List MemPlace}(h:DataW.trod enc Tryz.prog w base spare held fuel 4 cs=some x):∃b,cs=[.bool b]:=by
 cases fuel with
 |zero=>simp [DataW.trod]at h
 |succ n=>
  unfold DataW.trod at h;rw[Tryz.underlying4]at h
  rcases cs with _ |⟨c,_ |⟨c2,cs⟩⟩<;>(try cases c)<;>simp at h
  exact⟨_,rfl⟩
theorem open_intC{fuel:Nat}{cs:List Value}{x:DataW H×List MemPlace}(h:DataW.trod enc Tryz.prog w base spare held fuel 39 cs=some x):∃b s xs,cs=[.bool b,s]∧IsL .u64 w s xs∧Dig W xs∧(∀B,(∀n∈x.1.weights Tryz.prog 39,n≤B)→xs.length≤B)∧wordsI x.1 xs.length:=by
 obtain⟨y0,y1,n,hx,hl,h0,h1⟩:=trod_struct2 Tryz.underlying39 h;rw[cellsI]at hl
 obtain⟨c0,c1,rfl⟩:∃c0 c1,cs=[c0,c1]:=by
  rcases cs with _ |⟨c0,_ |⟨c1,_ |⟨c2,cs⟩⟩⟩<;>simp at hl
  exact⟨_,_,rfl⟩
 obtain⟨b,hb⟩:=open_bool1 h0;obtain⟨s,xs,hs,hL,hd,hB,hw⟩:=open_words Tryz.underlying37 Tryz.underlying173 cellsW bytesW h1
 have e0:List.take (Tryz.prog.cellsOf 4) (List.drop 0 [c0,c1])=[c0]:=by rw[cellsB];rfl
 have e1:List.take (Tryz.prog.cellsOf 37) (List.drop 1 [c0,c1])=[c1]:=by rw[cellsS];rfl
 have hb': [c0]=[.bool b]:=e0▸hb
 have hs': [c1]=[s]:=e1▸hs
 simp only[List.cons.injEq,and_true]at hb' hs';subst hb' hs';exact⟨b,_,xs,rfl,hL,hd,fun B h=>hB B fun n hn=>h n (by rw[hx];simp only[DataW.weights,Tryz.underlying39];exact List.mem_append_right _ (List.mem_append_left _ hn)),by rw[hx];exact⟨_,_,rfl,hw⟩⟩
theorem open_ratC{fuel:Nat}{cs:List Value}{x:DataW H×List MemPlace}(h:DataW.trod enc Tryz.prog w base spare held fuel 41 cs=some x):∃b s t xs ys,cs=[.bool b,s,t]∧IsL .u64 w s xs∧Dig W xs∧IsL .u64 w t ys∧Dig W ys∧(∀B,(∀n∈x.1.weights Tryz.prog 41,n≤B)→xs.length≤B∧ys.length≤B)∧wordsQ x.1 xs.length ys.length:=by
 obtain⟨y0,y1,n,hx,hl,h0,h1⟩:=trod_struct2 Tryz.underlying41 h;rw[cellsQ]at hl
 obtain⟨c0,c1,c2,rfl⟩:∃c0 c1 c2,cs=[c0,c1,c2]:=by
  rcases cs with _ |⟨c0,_ |⟨c1,_ |⟨c2,_ |⟨c3,cs⟩⟩⟩⟩<;>simp at hl
  exact⟨_,_,_,rfl⟩
 obtain⟨b,s,xs,hb,hL,hd,hB,hw⟩:=open_intC h0;obtain⟨t,ys,ht,hL2,hd2,hB2,hw2⟩:=open_words Tryz.underlying37 Tryz.underlying173 cellsW bytesW h1
 have e0:List.take (Tryz.prog.cellsOf 39) (List.drop 0 [c0,c1,c2])=[c0,c1]:=by rw[cellsI];rfl
 have e1:List.take (Tryz.prog.cellsOf 37) (List.drop 2 [c0,c1,c2])=[c2]:=by rw[cellsS];rfl
 have hb': [c0,c1]=[.bool b,s]:=e0▸hb
 have ht': [c2]=[t]:=e1▸ht
 simp only[List.cons.injEq,and_true]at hb' ht';obtain⟨rfl,rfl⟩:=hb';subst ht';refine⟨b,_,_,xs,ys,rfl,hL,hd,hL2,hd2,fun B h=>⟨hB B fun n hn=>h n ?_,hB2 B fun n hn=>h n ?_⟩,by rw[hx];exact⟨_,_,rfl,hw,hw2⟩⟩
 ·rw[hx];simp only[DataW.weights,Tryz.underlying41];exact List.mem_append_left _ hn
 ·rw[hx];simp only[DataW.weights,Tryz.underlying41];exact List.mem_append_right _ (List.mem_append_left _ hn)
end
def rawN(b:Bool)(xs:List Nat):Int:=sgn b (val W xs)
def rawD(ys:List Nat):Nat:=if val W ys=0 then 1 else val W ys
def rawR(b:Bool)(xs ys:List Nat):Rat:=mkRat (rawN b xs) (rawD ys)
theorem RawQ.isQ{w:World}{v:Value}{b:Bool}{xs ys:List Nat}(h:RawQ w v b xs ys)(dx:Dig W xs)(dy:Dig W ys)(h1:xs.length≤LIM)(h2:ys.length≤LIM):IsQ w v (rawN b xs) (rawD ys):=by
 obtain⟨s,t,rfl,hs,ht⟩:=h;exact⟨b,s,t,val W xs,val W ys,rfl,⟨xs,hs,h1,dx,rfl⟩,rfl,⟨ys,ht,h2,dy,rfl⟩,rfl⟩
theorem rawD_sz{ys:List Nat}(dy:Dig W ys):sz W (rawD ys)≤max ys.length 1:=by
 unfold rawD
 split
 ·rw[show sz W 1=1 from rfl];omega
 ·exact Nat.le_trans (dg_len_val W_gt dy) (by omega)
theorem rawN_sz{b:Bool}{xs:List Nat}(dx:Dig W xs):szZ (rawN b xs)≤xs.length:=by
 unfold rawN szZ;rw[sgn_natAbs];exact dg_len_val W_gt dx
theorem RawQ.isR{w:World}{v:Value}{b:Bool}{xs ys:List Nat}(h:RawQ w v b xs ys)(dx:Dig W xs)(dy:Dig W ys)(k:Nat)(h1:xs.length≤k)(h2:ys.length≤k)(hk:1≤k)(hk2:k≤LIM):IsR w v (rawR b xs ys) k:=by
 have:=rawD_sz dy
 have:=rawN_sz (b:=b) dx
 exact⟨_,_,h.isQ dx dy (by omega) (by omega),rfl,by omega,by omega⟩
theorem W_TK:W<TK^5:=by
 rw[W_eq,TK_eq]
 decide
theorem szTK_le(n:Nat):sz TK n≤5*sz W n:=by
 refine dg_len_le TK_gt ?_;rw[Nat.pow_mul];exact Nat.lt_of_lt_of_le (dg_len_lt W_gt n) (Nat.pow_le_pow_left (Nat.le_of_lt W_TK) _)
theorem FrQd.opn{B0:Nat}{w:World}{v:Value}{q:Rat}(h:FrQd B0 w v q):∃b ad l cap ad2 l2 cap2,v= .agg #[.bool b,.slice ad l cap,.slice ad2 l2 cap2]∧FrQd B0 w (.agg #[.bool b,.slice ad l cap,.slice ad2 l2 cap2]) q:=by
 have h':=h;obtain⟨s,t,rfl,hn,hm⟩:=h;obtain⟨ad,cap,rfl⟩:=hn.slice;obtain⟨ad2,cap2,rfl⟩:=hm.slice;exact⟨_,_,_,_,_,_,_,rfl,h'⟩
theorem RawQ.opn2{w:World}{v:Value}{b:Bool}{xs ys:List Nat}(h:RawQ w v b xs ys):∃ad n cap ad2 m cap2,n=xs.length∧m=ys.length∧v= .agg #[.bool b,.slice ad n cap,.slice ad2 m cap2]:=by
 obtain⟨s,t,rfl,⟨ad,cap,rfl,_⟩,⟨ad2,cap2,rfl,_⟩⟩:=h;exact⟨_,_,_,_,_,_,rfl,rfl,rfl⟩
theorem RawQ.opn{w:World}{v:Value}{b:Bool}{xs ys:List Nat}(h:RawQ w v b xs ys):∃ad cap ad2 cap2,v= .agg #[.bool b,.slice ad xs.length cap,.slice ad2 ys.length cap2]:=by
 obtain⟨s,t,rfl,⟨ad,cap,rfl,_⟩,⟨ad2,cap2,rfl,_⟩⟩:=h;exact⟨_,_,_,_,rfl⟩
theorem FrR.opn{B0:Nat}{w:World}{v:Value}{b:Bool}{xs ys:List Nat}(h:FrR B0 w v b xs ys):∃ad l cap ad2 l2 cap2,v= .agg #[.bool b,.slice ad l cap,.slice ad2 l2 cap2]∧FrR B0 w (.agg #[.bool b,.slice ad l cap,.slice ad2 l2 cap2]) b xs ys:=by
 have h':=h;obtain⟨ad,cap,ad2,cap2,rfl⟩:=h.raw.opn;exact⟨_,_,_,_,_,_,rfl,h'⟩
theorem mkRat_one(z:Int):mkRat z 1=(z:Rat):=by
 have h:=Rat.mkRat_self (z:Rat)
 rwa [Rat.num_intCast,Rat.den_intCast]at h
theorem szD_int(z:Int):szD (z:Rat)≤max (szT z) 1:=by
 have h:=szD_mkRat z 1 (by omega);rw[mkRat_one]at h
 have:sz TK 1≤1:=by
  refine dg_len_le TK_gt ?_;rw[TK_eq]
  decide
 unfold szD
 omega
theorem cmpR_swap(a b:Rat):cmpR b a= - cmpR a b:=by
 unfold cmpR
 grind
theorem cmpR_le{a b:Rat}:cmpR a b≤0↔a≤b:=by
 unfold cmpR
 grind
theorem szQ_add{x y:Rat}{k l:Nat}(hx:szQ x≤k)(hy:szQ y≤l):szQ (x+y)≤k+l+1:=by
 have a:=Nat.max_le.1 hx;have b:=Nat.max_le.1 hy
 have hq:x+y=mkRat (x.num*y.den+y.num*x.den) (x.den*y.den):=by
  have:=Rat.mkRat_add_mkRat x.num y.num (Nat.pos_iff_ne_zero.1 x.den_pos) (Nat.pos_iff_ne_zero.1 y.den_pos)
  rwa [Rat.mkRat_self,Rat.mkRat_self]at this
 rw[hq];have sxy:=szZ_mul x.num y.den;have syx:=szZ_mul y.num x.den;have sad:=szZ_add (x.num*y.den) (y.num*x.den)
 have s1:szZ (x.den:Int)=sz W x.den:=rfl
 have s2:szZ (y.den:Int)=sz W y.den:=rfl
 have s3:szZ ((x.den:Int)*(y.den:Int))≤szZ (x.den:Int)+szZ (y.den:Int):=szZ_mul _ _
 have s4:szZ ((x.den:Int)*(y.den:Int))=sz W (x.den*y.den):=rfl
 have hss:=szQ_mkRat (x.num*y.den+y.num*x.den) (x.den*y.den) (Nat.mul_pos x.den_pos y.den_pos);exact Nat.max_le.2 ⟨by omega,by omega⟩
theorem szQ_mul{x y:Rat}{k l:Nat}(hx:szQ x≤k)(hy:szQ y≤l):szQ (x*y)≤k+l:=by
 have a:=Nat.max_le.1 hx;have b:=Nat.max_le.1 hy
 have hq:x*y=mkRat (x.num*y.num) (x.den*y.den):=by
  have:=Rat.mkRat_mul_mkRat x.num y.num x.den y.den
  rwa [Rat.mkRat_self,Rat.mkRat_self]at this
 rw[hq];have sxy:=szZ_mul x.num y.num
 have s1:szZ (x.den:Int)=sz W x.den:=rfl
 have s2:szZ (y.den:Int)=sz W y.den:=rfl
 have s3:szZ ((x.den:Int)*(y.den:Int))≤szZ (x.den:Int)+szZ (y.den:Int):=szZ_mul _ _
 have s4:szZ ((x.den:Int)*(y.den:Int))=sz W (x.den*y.den):=rfl
 have hss:=szQ_mkRat (x.num*y.num) (x.den*y.den) (Nat.mul_pos x.den_pos y.den_pos);exact Nat.max_le.2 ⟨by omega,by omega⟩
theorem FrZd.opn{B0:Nat}{w:World}{v:Value}{z:Int}(h:FrZd B0 w v z):∃b ad l cap,v= .agg #[.bool b,.slice ad l cap]∧FrZd B0 w (.agg #[.bool b,.slice ad l cap]) z:=by
 have h':=h;obtain⟨s,rfl,hn⟩:=h;obtain⟨ad,cap,rfl⟩:=hn.slice;exact⟨_,_,_,_,rfl,h'⟩
section
variable {P:Program} {o:Oper} {a:Act} {f:Nat→Value} {w:World} {post:Value→World→Prop}
theorem addr_add(g off j:Nat):(⟨g,off,none⟩:Addr).add j=⟨g,off+j,none⟩:=by unfold Addr.add;split<;>simp_all
theorem run_loadVar_at(w:World)(g off:Nat)(ty:TypeId)(cs:Array Value)(d:TypeDesc)(hg:∀j v,cs[j]? =some v→w.cell? ⟨g,off+j,none⟩=some v)
  (hu:P.underlying ty=some d) (hd:(match d with | .struct _ | .array _ _=>true |_=>false)=true) (hi:(P.info? ty).map (·.size)=some cs.size):
  (loadVar ty ⟨g,off,none⟩).run P w= .ok (.agg cs) w:=by
 have hl:(loadCells ⟨g,off,none⟩ cs.toList.length).run P w= .ok cs.toList.toArray w:=
  run_loadCells_list (P:=P) w ⟨g,off,none⟩ cs.toList (fun j v hv=>by
   rw[addr_add]
   exact hg j v (by simpa using hv))
 cases hq:P.info? ty with
 |none=>simp [hq]at hi
 |some i=>
  have hs:i.size=cs.size:=by simpa[hq]using hi
  have hagg:(isAgg ty).run P w= .ok true w:=by
   unfold isAgg;rw[Sem.run_bind,run_underlying hu w]
   cases d<;>simp_all
  simp only[Array.length_toList,Array.toArray_toList]at hl
  simp[loadVar,Sem.run_bind,hagg,sizeOf,typeInfo,hq,hs,hl]
theorem og_loadAt(ty:TypeId)(x:Operand)(g off:Nat)(cs:Array Value)(d:TypeDesc)(hgd:o.guard=none)(ho:o.op= .load ty x)(hx:a.eval x= .pointer (some ⟨g,off,none⟩))(hg:∀j v,cs[j]? =some v→w.cell? ⟨g,off+j,none⟩=some v)
  (hu:P.underlying ty=some d) (hd:(match d with | .struct _ | .array _ _=>true |_=>false)=true) (hi:(P.info? ty).map (·.size)=some cs.size) (hp:post (.agg cs) w):OpGoal P o a f w Ext post:=by
 unfold OpGoal;rw[hgd];unfold Oper.wp execOp;simp only[ho,hx,Instr.loadAt,Instr.sureAddr,Sem.run_bind,Sem.run_pure,Result.andThen_ok,run_loadVar_at w g off ty cs d hg hu hd hi];exact⟨_,rfl,Ext.refl w,hp⟩
theorem og_buildSlice(t e:TypeId)(n s:Nat)(parts:Array (Nat×Operand))(vs:List Value)(hgd:o.guard=none)(ho:o.op= .buildSlice t n parts)(hu:P.underlying t=some (.slice e))(hi:(P.info? e).map (·.size)=some s)(hz:((P.info? e).bind (·.zero)).isSome=true)
  (hp:(parts.toList.map fun x=>(x.1,a.eval x.2))=(vs.zipIdx 0).map fun x=>(x.2,x.1)) (hn:n=vs.length) (h0:0<n) (hs0:0<s) (hsm:n*s≤2^24) (hv:∀v∈vs,v.cells.size=s)
  (hq:∀w',Ext w w'→Bx e w' w.heap.size (vs.flatMap fun v=>v.cells.toList).toArray→post (.slice (some ⟨w.heap.size,0,none⟩) n n) w'):OpGoal P o a f w Ext post:=by
 unfold OpGoal;rw[hgd]
 cases hie:P.info? e with
 |none=>simp [hie]at hi
 |some ie=>
  simp only[hie,Option.map_some,Option.some.injEq,Option.bind_some]at hi hz;obtain⟨z,hzz⟩:=Option.isSome_iff_exists.1 hz;have hpos:0<n*s:=Nat.mul_pos h0 hs0
  have hb:Bx e (w.alloc (.cells (vs.flatMap fun(v:Value)=>v.cells.toList).toArray e)) w.heap.size (vs.flatMap fun(v:Value)=>v.cells.toList).toArray:=heap_alloc_new w _
  have hq':=hq _ ((Ext.refl w).alloc _) hb;refine wp_buildSlice t e n parts ho (vs.flatMap fun v=>v.cells.toList).toArray ie z hu hie hzz (by rw[hi];omega) (by rw[hi];omega) ?_ ⟨_,rfl,(Ext.refl w).alloc _,hq'⟩;rw[Array.toList_map,hi];refine(congrArg _ hp).trans ?_;exact Great.fill_whole hs0 vs _ hv (by simp[hn])
end
def SL{α:Type}(n:Nat)(R:World→Value→α→Prop)(w:World)(u:Value)(xs:List α):Prop:=
 ∃ad cap,u= .slice ad xs.length cap∧xs.length≤cap∧cap≤9223372036854775807∧
  (xs=[]∨∃g off,ad=some ⟨g,off,none⟩∧∀(i:Nat) (x:α),xs[i]? =some x→∃cs:Array Value,cs.size=n∧(∀(j:Nat) (v:Value),cs[j]? =some v→w.cell? ⟨g,off+i*n+j,none⟩=some v)∧R w (.agg cs) x)
theorem SL.ext{α:Type}{n:Nat}{R:World→Value→α→Prop}{w w':World}{u:Value}{xs:List α}(hR:∀v x,R w v x→R w' v x)(h:SL n R w u xs)(he:Ext w w'):SL n R w' u xs:=by
 obtain⟨ad,cap,h1,h2,h3,h4⟩:=h;refine⟨ad,cap,h1,h2,h3,?_⟩
 rcases h4 with h4 |⟨g,off,h4,h5⟩
 ·exact .inl h4
 ·refine .inr ⟨g,off,h4,fun i x hi=> ?_⟩;obtain⟨cs,k1,k2,k3⟩:=h5 i x hi;exact⟨cs,k1,fun j v hj=>he.cell (k2 j v hj),hR _ _ k3⟩
theorem SL.opn{α:Type}{n:Nat}{R:World→Value→α→Prop}{w:World}{u:Value}{xs:List α}(h:SL n R w u xs):∃ad m cap,m=xs.length∧u= .slice ad m cap∧m≤9223372036854775807∧
  ∀(i:Nat) (x:α),xs[i]? =some x→∃g off,ad=some ⟨g,off,none⟩∧∃cs:Array Value,cs.size=n∧(∀wz,Ext w wz→∀(j:Nat) (v:Value),cs[j]? =some v→wz.cell? ⟨g,off+i*n+j,none⟩=some v)∧R w (.agg cs) x:=by
 obtain⟨ad,cap,h1,h2,h3,h4⟩:=h;refine⟨ad,_,cap,rfl,h1,by omega,fun i x hi=> ?_⟩
 rcases h4 with h4 |⟨g,off,h4,h5⟩
 ·subst h4;simp at hi
 ·obtain⟨cs,k1,k2,k3⟩:=h5 i x hi;exact⟨g,off,h4,cs,k1,fun wz hz j v hj=>hz.cell (k2 j v hj),k3⟩
def SV{α:Type}(R:World→Value→α→Prop)(w:World)(u:Value)(xs:List α):Prop:=
 ∃ad cap,u= .slice ad xs.length cap∧xs.length≤cap∧cap≤9223372036854775807∧
  (xs=[]∨∃g off,ad=some ⟨g,off,none⟩∧∀(i:Nat) (x:α),xs[i]? =some x→∃v,w.cell? ⟨g,off+i,none⟩=some v∧R w v x)
theorem SV.ext{α:Type}{R:World→Value→α→Prop}{w w':World}{u:Value}{xs:List α}(hR:∀v x,R w v x→R w' v x)(h:SV R w u xs)(he:Ext w w'):SV R w' u xs:=by
 obtain⟨ad,cap,h1,h2,h3,h4⟩:=h;refine⟨ad,cap,h1,h2,h3,?_⟩
 rcases h4 with h4 |⟨g,off,h4,h5⟩
 ·exact .inl h4
 ·refine .inr ⟨g,off,h4,fun i x hi=> ?_⟩;obtain⟨v,k1,k2⟩:=h5 i x hi;exact⟨v,he.cell k1,hR _ _ k2⟩
theorem SV.opn{α:Type}{R:World→Value→α→Prop}{w:World}{u:Value}{xs:List α}(h:SV R w u xs):∃ad m cap,m=xs.length∧u= .slice ad m cap∧m≤9223372036854775807∧
  ∀(i:Nat) (x:α),xs[i]? =some x→∃g off,ad=some ⟨g,off,none⟩∧∃v,(∀wz,Ext w wz→wz.cell? ⟨g,off+i,none⟩=some v)∧R w v x:=by
 obtain⟨ad,cap,h1,h2,h3,h4⟩:=h;refine⟨ad,_,cap,rfl,h1,by omega,fun i x hi=> ?_⟩
 rcases h4 with h4 |⟨g,off,h4,h5⟩
 ·subst h4;simp at hi
 ·obtain⟨v,k1,k2⟩:=h5 i x hi;exact⟨g,off,h4,v,fun wz hz=>hz.cell k1,k2⟩
theorem exists_list{α:Type}{p:Nat→α→Prop}:∀n:Nat,(∀i,i<n→∃y,p i y)→∃ys:List α,ys.length=n∧∀i y,ys[i]? =some y→p i y
 |0,_=>⟨[],rfl,fun i y h=>by simp at h⟩
 |n+1,h=>by
  obtain⟨ys,h1,h2⟩:=exists_list n fun i hi=>h i (by omega)
  obtain⟨y,hy⟩:=h n (by omega);refine⟨ys++ [y],by simp[h1],fun i z hz=> ?_⟩;rw[List.getElem?_append]at hz
  split at hz
  ·exact h2 i z hz
  ·have hi:i - ys.length=0:=by
    have:=(List.getElem?_eq_some_iff.1 hz).1
    simp at this
    omega
   rw[hi]at hz
   simp at hz
   subst hz;rw[show i=n by omega];exact hy
section
variable {H:Type} {enc:TypeId×Value→H} {P:Program} {w:World} {base:Nat} {spare:Nat→Bool} {held:Bool}
theorem weights_mem{e:TypeId}:∀{ds:List (DataW H)} {d:DataW H} {n:Nat},d∈ds→n∈d.weights P e→n∈DataW.weightsAll P e ds
 |d0::ds,d,n,hd,hn=>by
  unfold DataW.weightsAll
  rcases List.mem_cons.1 hd with rfl |hd
  ·exact List.mem_append_left _ hn
  ·exact List.mem_append_right _ (weights_mem hd hn)
theorem open_structs{α:Type}{n:Nat}{R:World→Value→α→Prop}{F:DataW H→α→Prop}{t e:TypeId}{fuel:Nat}{cs:List Value}{x:DataW H×List MemPlace}(B:Nat)(ht:P.underlying t=some (.slice e))(hc:P.cellsOf e=n)(hn:0<n)
  (hel:∀(fuel:Nat) (cs:List Value) (x:DataW H×List MemPlace),cs.length=n→(∀m∈x.1.weights P e,m≤B)→DataW.trod enc P w base spare held fuel e cs=some x→∃y,R w (.agg cs.toArray) y∧F x.1 y)
  (hB:∀m∈x.1.weights P t,m≤B) (h:DataW.trod enc P w base spare held fuel t cs=some x):
  ∃v ys,cs=[v]∧SL n R w v ys∧ys.length*P.bytesOf e≤B∧((x.1= .nil∧ys=[])∨∃ds rs,x.1= .slice ds rs∧ds.length=ys.length∧∀(i:Nat) (d:DataW H) (y:α),ds[i]? =some d→ys[i]? =some y→F d y):=by
 rcases Go.Deep.open_slice ht h with⟨rfl,rfl⟩ |⟨a,len,cap,m,k,D,Pl,rfl,hb,hl,hm,hmm,rfl,hx⟩
 ·exact⟨_,[],rfl,⟨none,0,rfl,Nat.le_refl _,by omega,.inl rfl⟩,by simp,.inl ⟨rfl,rfl⟩⟩
 ·have hlm:len≤m:=by rw[hmm];split<;>omega
  rw[hc]at hx
  have hW:∀i,i<len→∀q∈(D i).weights P e,q≤B:=fun i hi q hq=>hB q (by
   simp only[DataW.weights,ht]
   exact List.mem_cons_of_mem _ (List.mem_append_left _ (weights_mem (List.mem_map.2 ⟨i,by simpa using hi,rfl⟩) hq)))
  obtain⟨ys,hyl,hys⟩:=exists_list (p:=fun i y=>∃cs',w.cells? base (a.add (i*n)) n=some cs'∧R w (.agg cs'.toArray) y∧F (D i) y) len (fun i hi=>by
   obtain⟨cs',h1,h2⟩:=hx i (by omega);obtain⟨y,h3,h4⟩:=hel _ _ _ (World.cells?_some h1).2.1 (hW i hi) h2
   exact⟨y,cs',h1,h3,h4⟩)
  refine⟨_,ys,rfl,⟨some a,cap,by rw[hyl],by omega,by unfold maxLen at hm;omega,?_⟩,?_,.inr ⟨_,_,rfl,by simp[hyl],fun i d y hd hy=> ?_⟩⟩
  ·rcases Nat.eq_zero_or_pos len with h0 |h0
   ·exact .inl (List.eq_nil_of_length_eq_zero (by omega))
   ·obtain⟨b,off,rfl⟩:∃b off,a=⟨b,off,none⟩:=by
     obtain⟨y0,hy0⟩:∃y0,ys[0]? =some y0:=⟨_,List.getElem?_eq_getElem (by omega)⟩;obtain⟨cs',h1, -⟩:=hys 0 y0 hy0;obtain⟨-,hlen,hcell⟩:=World.cells?_some h1;have h2:=hcell 0 hn;rw[List.getElem?_eq_getElem (by omega)]at h2;obtain⟨b,off,spot⟩:=a
     have hspot:spot=none:=by simpa[Addr.add]using World.cell?_spot h2
     exact⟨b,off,by rw[hspot]⟩
    refine .inr ⟨b,off,rfl,fun i y hy=> ?_⟩;obtain⟨cs',h1,h3, -⟩:=hys i y hy;obtain⟨-,hlen,hcell⟩:=World.cells?_some h1;refine⟨cs'.toArray,by simpa using hlen,fun j v hj=> ?_,h3⟩
    have hj':cs'[j]? =some v:=by simpa using hj
    have hjn:j<n:=by rw[←hlen];exact(List.getElem?_eq_some_iff.1 hj').1
    have h2:=hcell j hjn;rw[hj',addr_add,addr_add]at h2;exact h2
  ·have:=hB (((List.range len).map D).length*P.bytesOf e+((List.range (m - len)).map fun j=>D (len+j)).length*P.bytesOf e) (by
    simp only[DataW.weights,ht,←Nat.add_mul]
    exact List.mem_cons_self ..)
   rw[hyl];simp only[List.length_map,List.length_range]at this
   omega
  ·obtain⟨cs', -, -,h4⟩:=hys i y hy
   have hi:i<len:=by rw[←hyl];exact(List.getElem?_eq_some_iff.1 hy).1
   rw[List.getElem?_map,List.getElem?_range hi]at hd;simp only[Option.map_some,Option.some.injEq]at hd;subst hd;exact h4
end
def RawE(w:World)(v:Value)(e:Bool×List Nat×List Nat):Prop:=RawQ w v e.1 e.2.1 e.2.2∧Dig W e.2.1∧Dig W e.2.2∧e.2.1.length+e.2.2.length≤9223372036854775807
def ratE(e:Bool×List Nat×List Nat):Rat:=rawR e.1 e.2.1 e.2.2
theorem RawE.ext{w w':World}{v:Value}{e:Bool×List Nat×List Nat}(h:RawE w v e)(he:Ext w w'):RawE w' v e:=⟨h.1.ext he,h.2⟩
def SLQ(w:World)(u:Value)(l:List (Bool×List Nat×List Nat)):Prop:=SL 3 RawE w u l
theorem SLQ.ext{w w':World}{u:Value}{l:List (Bool×List Nat×List Nat)}(h:SLQ w u l)(he:Ext w w'):SLQ w' u l:=SL.ext (fun _ _ h=>h.ext he) h he
theorem SLQ.at{w:World}{u:Value}{l:List (Bool×List Nat×List Nat)}(h:SLQ w u l):∃ad m cap,m=l.length∧u= .slice ad m cap∧m≤9223372036854775807∧∀(i:Nat) (e:Bool×List Nat×List Nat),l[i]? =some e→∃g off,ad=some ⟨g,off,none⟩∧∃b a1 n1 c1 a2 n2 c2,n1=e.2.1.length∧n2=e.2.2.length∧
  ∀wz,Ext w wz→wz.cell? ⟨g,off+i*3,none⟩=some (.bool b)∧wz.cell? ⟨g,off+i*3+1,none⟩=some (.slice a1 n1 c1)∧wz.cell? ⟨g,off+i*3+2,none⟩=some (.slice a2 n2 c2)∧RawE wz (.agg #[.bool b,.slice a1 n1 c1,.slice a2 n2 c2]) e:=by
 obtain⟨ad,m,cap,h1,h2,h3,h4⟩:=h.opn;refine⟨ad,m,cap,h1,h2,h3,fun i e hi=> ?_⟩;obtain⟨g,off,k1,cs,k2,k3,k4⟩:=h4 i e hi;obtain⟨a1,n1,c1,a2,n2,c2,j1,j2,j3⟩:=RawQ.opn2 k4.1
 cases j3
 exact⟨g,off,k1,_,a1,n1,c1,a2,n2,c2,j1,j2,fun wz hz=>⟨k3 wz hz 0 _ rfl,k3 wz hz 1 _ rfl,k3 wz hz 2 _ rfl,k4.ext hz⟩⟩
def AnyInt(cs:Array Value):Prop:=cs=cs
def TChg(S:Nat)(w1 w2:World):Prop:=∃g t cs cs',S≤g∧t≠173∧t≠3∧AnyInt cs∧Bx t w1 g cs∧Bx t w2 g cs'∧Chg g w1 w2
theorem Own.tchg{S:Nat}{e:TypeId}{B:Nat}{w1 w2:World}{ad:Option Addr}{cap:Nat}{xs:List Value}(h:Own e B w1 ad cap xs)(hc:TChg S w1 w2)(he:e=173∨e=3):Own e B w2 ad cap xs:=by
 obtain⟨g,t,cs,cs',_,ht1,ht2,hno,hb,_,hch⟩:=hc
 rcases h with h |⟨g',cur,h1,h2,h3,h4⟩
 ·exact .inl h
 ·refine .inr ⟨g',cur,h1,h2,hch.blk h3 ?_,h4⟩;rintro rfl;unfold Bx at hb;rw[h3]at hb;simp only[Option.some.injEq,Obj.cells.injEq]at hb
  rcases he with he |he
  ·exact ht1 (hb.2.1▸he)
  ·exact ht2 (hb.2.1▸he)
theorem FrN.tchg{S:Nat}{w1 w2:World}{e:TypeId}{k:IntKind}{B B0 n:Nat}{v:Value}(h:FrN e k B B0 w1 v n)(hc:TChg S w1 w2)(he:e=173∨e=3):FrN e k B B0 w2 v n:=by
 obtain⟨ad,cap,h1,h2,h3,h4⟩:=h;exact⟨ad,cap,h1,h2,h3,h4.tchg hc he⟩
theorem FrQ.tchg{S:Nat}{w1 w2:World}{B0:Nat}{v:Value}{q:Rat}(h:FrQ B0 w1 v q)(hc:TChg S w1 w2):FrQ B0 w2 v q:=by
 obtain⟨s,t,h1,h2,h3⟩:=h;exact⟨s,t,h1,h2.tchg hc (.inl rfl),h3.tchg hc (.inl rfl)⟩
theorem FrQd.tchg{S:Nat}{w1 w2:World}{B0:Nat}{v:Value}{q:Rat}(h:FrQd B0 w1 v q)(hc:TChg S w1 w2):FrQd B0 w2 v q:=by
 obtain⟨s,t,h1,h2,h3⟩:=h;exact⟨s,t,h1,h2.tchg hc (.inr rfl),h3.tchg hc (.inr rfl)⟩
theorem all4{a b c d:Value}(h0:a.oneCell'=true)(h1:b.oneCell'=true)(h2:c.oneCell'=true)(h3:d.oneCell'=true):(#[a,b,c,d]:Array Value).all (·.oneCell')=true:=by simp[h0,h1,h2,h3]
theorem all5{a b c d e:Value}(h0:a.oneCell'=true)(h1:b.oneCell'=true)(h2:c.oneCell'=true)(h3:d.oneCell'=true)(h4:e.oneCell'=true):(#[a,b,c,d,e]:Array Value).all (·.oneCell')=true:=by simp[h0,h1,h2,h3,h4]
theorem rqsmall3_calls(z:Int)(w:World)(h0: -9223372036854775808≤z)(h1:z≤9223372036854775807):
  Calls Tryz.prog 34 #[.int .i64 z] w fun e w'=>∃v',e= .returned v'∧FrQd w.heap.size w' v' (z:Rat)∧Ext w w':=by
 have hq1:mkRat z 1=(z:Rat):=mkRat_one z
 have hzs:=szT_small (z:=z) (by omega)
 go_enter Tryz.func34,Tryz.ntmps34
 obtain⟨w1,hw1,e1,b1,s1⟩:=alloc1 w #[.bool false,.slice none 0 0,.slice none 0 0] 56;go_wp2_with fail;rw[←hw1];refine(zsmall2_calls z _ h0 h1).mono ?_;rintro e w2 ⟨v2,rfl,z2,e2⟩;obtain⟨b,ad,l,cap,rfl,z2⟩:=FrZd.opn z2;obtain⟨w3,hw3,e3,b3,s3⟩:=alloc1 w2 #[.int .i64 1] 3
 have hone:IsN .i64 TK w3 (.slice (some ⟨w2.heap.size,0,none⟩) 1 1) 1:=
  ⟨[1],⟨_,1,rfl,Nat.le_refl _,by omega,.inr ⟨_,0,rfl,fun i v hi=>by rw[Nat.zero_add];exact(b3.cell i).trans (by simpa[vals]using hi)⟩⟩,by rw[LIM_eq];simp,fun y hy=>(by simpa using hy:y=1)▸(by rw[TK_eq];omega),by simp[val]⟩
 go_wp2_with fail;rw[←hw3];have e13:=e2.trans e3;refine(lowest3z_calls _ _ z 1 _ (z2.cz.ext e3) hone (by omega) (by omega) (by rw[show sz TK 1=1 from rfl];omega)).mono ?_;rw[hq1];rintro e w5 ⟨v5,rfl,h5,e5⟩;obtain⟨s',t',rfl,hn,hm⟩:=h5;obtain⟨ad5,cap5,rfl⟩:=hn.slice;obtain⟨ad6,cap6,rfl⟩:=hm.slice;have Hn5:=Lib.hid hn;have Hm5:=Lib.hid hm;have hsz:=e2.size;clear hn hm;have hb:=b1.ext (e13.trans e5);have hc0:=hb.cell 0;have hc1:=hb.cell 1;have hc2:=hb.cell 2;have hf0:=hb.free 0;have hf1:=hb.free 1;have hf2:=hb.free 2;go_wp2;refine ret_box 2 56 w.heap.size 56 _ _ (by kernel_rfl) rfl (((hb.set 0 _).set 1 _).set 2 _) Tryz.underlying56 rfl (by kernel_rfl) rfl ?_;exact⟨_,rfl,⟨_,_,rfl,(Hn5.out.chg (Chg.trans (Chg.trans (Chg.setCell _ w.heap.size 0 _) (Chg.setCell _ w.heap.size 1 _)) (Chg.setCell _ w.heap.size 2 _)) (by omega)).mono (by omega),(Hm5.out.chg (Chg.trans (Chg.trans (Chg.setCell _ w.heap.size 0 _) (Chg.setCell _ w.heap.size 1 _)) (Chg.setCell _ w.heap.size 2 _)) (by omega)).mono (by omega)⟩,(e1.trans (e13.trans e5)).step (Chg.trans (Chg.trans (Chg.setCell _ w.heap.size 0 _) (Chg.setCell _ w.heap.size 1 _)) (Chg.setCell _ w.heap.size 2 _)) (by omega)⟩
end Go.Proofs.YtbmnlaepfckmkaaGreat
