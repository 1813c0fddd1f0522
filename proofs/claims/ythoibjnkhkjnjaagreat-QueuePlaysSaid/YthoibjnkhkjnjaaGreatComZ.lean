/-
 What every layer above the fractions uses: arguments opened, results opened, sizes, memory written over, lists of fractions.
-/
import Derived.Test.YthoibjnkhkjnjaaGreatRtfZ
import Derived.ProofKit
import Derived.OpenShut
import Derived.Carry
import Derived.ChangeSlices
import Derived.Great.BuildSlice
import Derived.Deep.Slices
namespace Go.Proofs.YthoibjnkhkjnjaaGreat
set_option maxRecDepth 100000
set_option maxHeartbeats 1000000
open Go.RowKit
set_option linter.unusedVariables false
set_option linter.unusedSimpArgs false
theorem szT_small{z:Int}(h:z.natAbs≤9223372036854775808):szT z≤5:=by
 refine dg_len_le TK_gt ?_;rw[TK_eq]
 have:(10000:Nat)^5=100000000000000000000:=by decide
 omega
section
open Go.ChangeShapes Go.WideShapes Go.ChangeAt
variable {H:Type} {enc:TypeId×Value→H} {P:Program}
theorem post_of_ext{f:Func}{s:ChangeSpec}{apart fresh handsOn again:Bool}{W W':World}{args:Array Value}{v:Value}{ds gs:List (DataW H)}{before pa pv:List MemPlace}
  (hW:DataW.Whole enc P f.params.toList s.vars apart W args.toList ds gs before)
  (hres:∀(b:Nat) (sp:Nat→Bool) (hd:Bool),DataW.TrodAll enc P W' b sp hd f.resultTypes.toList (v.resultList f.resultTypes.size) (s.fn H (ds++gs)).results [])
  (hargs:∀sp:Nat→Bool,(∀p∈before,sp p.block=true)→DataW.TrodAll enc P W' 0 sp true f.params.toList args.toList (s.fn H (ds++gs)).args pa)
  (hvars:∀sp:Nat→Bool,(∀p∈before,sp p.block=true)→DataW.TrodVars enc P W' sp s.vars (s.fn H (ds++gs)).vars pv)
  (hps:before=pa++pv) (hE:Ext W W')
  (hok:∀(j:Nat) (t:TypeId) (r:Value),f.resultTypes[j]? =some t→(v.resultList f.resultTypes.size)[j]? =some r→Value.okWide P W' .any 0 t r):
  s.post enc P f apart fresh handsOn again W args v W':=by
 have hold:∀p∈before,(fun b=>decide (b<W.heap.size)) p.block=true:=fun p hp=>by simpa using hW.lt p hp
 refine⟨ds,gs,before,[],pa,pv,hW,hres _ _ _,hargs _ hold,hvars _ hold,World.keptBut_mono (fun p hp=>⟨hp,?_⟩) (hE.below.frame _),fun _=> ?_⟩
 ·rw[hps,List.mem_append]at hp;exact Or.inr hp
 ·have hlt:=hW.lt;obtain⟨_,_,_,_,_,hz,hn⟩:=hW;refine⟨hok,_,_,([]++pa)++pv,⟨[]++pa,pv,trodAll_append (hargs _ (fun _ _=>rfl)) (hres _ _ _),hvars _ (fun _ _=>rfl),rfl,?_,?_⟩,?_⟩
  ·intro b off hp;have h0:=hz b off (by rw[hps];simpa using hp);rw[Ext.frozen hE b off (hlt (.cell b off) (by rw[hps];simpa using hp))];exact h0
  ·intro ha
   have:=hn ha
   rw[hps]at this
   simpa using this
  ·intro p hp _;rw[hps]
   simpa using hp
end
theorem FrQ.opn{B0:Nat}{w:World}{v:Value}{q:Rat}(h:FrQ B0 w v q):∃b ad l cap ad2 l2 cap2,v= .agg #[.bool b,.slice ad l cap,.slice ad2 l2 cap2]∧FrQ B0 w (.agg #[.bool b,.slice ad l cap,.slice ad2 l2 cap2]) q:=by
 have h':=h;obtain⟨s,t,rfl,hn,hm⟩:=h;obtain⟨ad,cap,rfl⟩:=hn.slice;obtain⟨ad2,cap2,rfl⟩:=hm.slice;exact⟨_,_,_,_,_,_,_,rfl,h'⟩
open Go.ChangeShapes Go.WideShapes Go.ChangeAt
section
variable {H:Type} {enc:TypeId×Value→H} {P:Program} {w:World}
theorem trodAll_ext(hl:laidOutB P=true){W W':World}(hE:Ext W W')(sp:Nat→Bool):∀{ts:List TypeId} {vs:List Value} {ds:List (DataW H)} {ps:List MemPlace},
  (∀t∈ts,P.readableRec t=true∧t<P.types.size)→DataW.TrodAll enc P W 0 (fun _=>true) true ts vs ds ps→(∀x∈ps,x.block<W.heap.size)→(∀x∈ps,sp x.block=true)→DataW.TrodAll enc P W' 0 sp true ts vs ds ps
 | [],vs,ds,ps,_,h,_,_=>by
  obtain⟨rfl,rfl,rfl⟩:=trodAll_nil h;exact trodAll_mk0
 |t::ts,vs,ds,ps,ht,h,hlt,hsp=>by
  obtain⟨v,vs',d,ds',p,q,rfl,rfl,rfl,h1,h2⟩:=trodAll_cons h;have h0:=ht t (List.mem_cons_self ..);exact trodAll_cons_mk (WideElems.Trod_stays hl h0.1 h0.2 h1 (fun x hx=>hE.below.same (hlt x (List.mem_append_left _ hx))) (fun x hx=>hsp x (List.mem_append_left _ hx)))
   (trodAll_ext hl hE sp (fun t' ht'=>ht t' (List.mem_cons_of_mem _ ht')) h2 (fun x hx=>hlt x (List.mem_append_right _ hx)) (fun x hx=>hsp x (List.mem_append_right _ hx)))
def wordsIn{H:Type}(d:DataW H)(n:Nat):Prop:=(d= .nil∧n=0)∨∃es rs,d= .slice es rs∧es.length=n
def wordsI{H:Type}(d:DataW H)(n:Nat):Prop:=∃d0 d1,d= .agg [d0,d1]∧wordsIn d1 n
def wordsQ{H:Type}(d:DataW H)(n m:Nat):Prop:=∃d0 d1,d= .agg [d0,d1]∧wordsI d0 n∧wordsIn d1 m
theorem open_words{base:Nat}{spare:Nat→Bool}{held:Bool}{t e:TypeId}{fuel:Nat}{cs:List Value}{x:DataW H×List MemPlace}(ht:P.underlying t=some (.slice e))(he:P.underlying e=some (.int .u64))(hc:P.cellsOf e=1)(hby:1≤P.bytesOf e)
  (h:DataW.trod enc P w base spare held fuel t cs=some x):∃v xs,cs=[v]∧IsL .u64 w v xs∧Dig W xs∧(∀B,(∀n∈x.1.weights P t,n≤B)→xs.length≤B)∧wordsIn x.1 xs.length:=by
 rcases open_ints ht he hc h with⟨rfl,hx0⟩ |⟨a,len,cap,zs,rfl,_,hl,hm,hzl,hx,hcell,hwf⟩
 ·exact⟨_,[],rfl,⟨none,0,rfl,Nat.le_refl _,by omega,Rd.nil _ _⟩,Dig.nil,fun B _=>Nat.zero_le B,.inl ⟨by rw[hx0],rfl⟩⟩
 ·have hlz:len≤zs.length:=by rw[hzl];split<;>omega
  have hnn:∀z∈zs,0≤z∧z≤18446744073709551615:=fun z hz=>bounds_u64 (hwf z hz)
  refine⟨_,(zs.take len).map Int.toNat,rfl,⟨some a,cap,by rw[List.length_map,List.length_take];congr 1;omega,by rw[List.length_map,List.length_take];omega,by unfold maxLen at hm;omega,?_⟩,?_,?_,?_⟩
  ·rcases Nat.eq_zero_or_pos len with h0 |h0
   ·subst h0;exact .inl (by simp[vals])
   ·obtain⟨b,off,rfl,hc2⟩:=ints_at hcell (by omega);refine .inr ⟨b,off,rfl,fun i v hi=> ?_⟩
    have hil:i<len:=by
     have:=(List.getElem?_eq_some_iff.1 hi).1
     rw[vals_length,List.length_map,List.length_take]at this
     omega
    have hiz:i<zs.length:=by omega
    rw[hc2 i hiz,←hi];have hz:=hnn zs[i] (List.getElem_mem hiz)
    simp[vals,List.getElem?_map,hil,hiz,List.getD]
    omega
  ·intro y hy;obtain⟨z,hz,rfl⟩:=List.mem_map.1 hy
   have:=hnn z (List.mem_of_mem_take hz)
   rw[W_eq]
   omega
  ·intro B hB;subst hx
   have:=hB (((lits (H:=H) .u64 (zs.take len)).length+(lits (H:=H) .u64 (zs.drop len)).length)*P.bytesOf e) (by simp[DataW.weights,ht])
   rw[List.length_map]
   have h1:(lits (H:=H) .u64 (zs.take len)).length=(zs.take len).length:=by simp[lits]
   rw[h1]at this;have h2:(zs.take len).length*1≤((zs.take len).length+(lits (H:=H) .u64 (zs.drop len)).length)*P.bytesOf e:=Nat.mul_le_mul (Nat.le_add_right _ _) hby
   omega
  ·subst hx;exact .inr ⟨_,_,rfl,by simp[lits]⟩
end
theorem bytesW:1≤Tryz.prog.bytesOf 61:=by decide+kernel
theorem cellsW:Tryz.prog.cellsOf 61=1:=by kernel_rfl
theorem cellsI:Tryz.prog.cellsOf 34=2:=by kernel_rfl
theorem cellsQ:Tryz.prog.cellsOf 36=3:=by kernel_rfl
theorem cellsB:Tryz.prog.cellsOf 4=1:=by kernel_rfl
theorem cellsS:Tryz.prog.cellsOf 32=1:=by kernel_rfl
section
variable {H:Type} {enc:TypeId×Value→H} {w:World} {base:Nat} {spare:Nat→Bool} {held:Bool}
theorem open_bool1{fuel:Nat}{cs:List Value}{x:DataW H×List MemPlace}(h:DataW.trod enc Tryz.prog w base spare held fuel 4 cs=some x):∃b,cs=[.bool b]:=by
 cases fuel with
 |zero=>simp [DataW.trod]at h
 |succ n=>
  unfold DataW.trod at h;rw[Tryz.underlying4]at h
  rcases cs with _ |⟨c,_ |⟨c2,cs⟩⟩<;>(try cases c)<;>simp at h
  exact⟨_,rfl⟩
theorem open_intC{fuel:Nat}{cs:List Value}{x:DataW H×List MemPlace}(h:DataW.trod enc Tryz.prog w base spare held fuel 34 cs=some x):∃b s xs,cs=[.bool b,s]∧IsL .u64 w s xs∧Dig W xs∧(∀B,(∀n∈x.1.weights Tryz.prog 34,n≤B)→xs.length≤B)∧wordsI x.1 xs.length:=by
 obtain⟨y0,y1,n,hx,hl,h0,h1⟩:=trod_struct2 Tryz.underlying34 h;rw[cellsI]at hl
 obtain⟨c0,c1,rfl⟩:∃c0 c1,cs=[c0,c1]:=by
  rcases cs with _ |⟨c0,_ |⟨c1,_ |⟨c2,cs⟩⟩⟩<;>simp at hl
  exact⟨_,_,rfl⟩
 obtain⟨b,hb⟩:=open_bool1 h0;obtain⟨s,xs,hs,hL,hd,hB,hw⟩:=open_words Tryz.underlying32 Tryz.underlying61 cellsW bytesW h1
 have e0:List.take (Tryz.prog.cellsOf 4) (List.drop 0 [c0,c1])=[c0]:=by rw[cellsB];rfl
 have e1:List.take (Tryz.prog.cellsOf 32) (List.drop 1 [c0,c1])=[c1]:=by rw[cellsS];rfl
 have hb': [c0]=[.bool b]:=e0▸hb
 have hs': [c1]=[s]:=e1▸hs
 simp only[List.cons.injEq,and_true]at hb' hs';subst hb' hs';exact⟨b,_,xs,rfl,hL,hd,fun B h=>hB B fun n hn=>h n (by rw[hx];simp only[DataW.weights,Tryz.underlying34];exact List.mem_append_right _ (List.mem_append_left _ hn)),by rw[hx];exact⟨_,_,rfl,hw⟩⟩
theorem open_ratC{fuel:Nat}{cs:List Value}{x:DataW H×List MemPlace}(h:DataW.trod enc Tryz.prog w base spare held fuel 36 cs=some x):∃b s t xs ys,cs=[.bool b,s,t]∧IsL .u64 w s xs∧Dig W xs∧IsL .u64 w t ys∧Dig W ys∧(∀B,(∀n∈x.1.weights Tryz.prog 36,n≤B)→xs.length≤B∧ys.length≤B)∧wordsQ x.1 xs.length ys.length:=by
 obtain⟨y0,y1,n,hx,hl,h0,h1⟩:=trod_struct2 Tryz.underlying36 h;rw[cellsQ]at hl
 obtain⟨c0,c1,c2,rfl⟩:∃c0 c1 c2,cs=[c0,c1,c2]:=by
  rcases cs with _ |⟨c0,_ |⟨c1,_ |⟨c2,_ |⟨c3,cs⟩⟩⟩⟩<;>simp at hl
  exact⟨_,_,_,rfl⟩
 obtain⟨b,s,xs,hb,hL,hd,hB,hw⟩:=open_intC h0;obtain⟨t,ys,ht,hL2,hd2,hB2,hw2⟩:=open_words Tryz.underlying32 Tryz.underlying61 cellsW bytesW h1
 have e0:List.take (Tryz.prog.cellsOf 34) (List.drop 0 [c0,c1,c2])=[c0,c1]:=by rw[cellsI];rfl
 have e1:List.take (Tryz.prog.cellsOf 32) (List.drop 2 [c0,c1,c2])=[c2]:=by rw[cellsS];rfl
 have hb': [c0,c1]=[.bool b,s]:=e0▸hb
 have ht': [c2]=[t]:=e1▸ht
 simp only[List.cons.injEq,and_true]at hb' ht';obtain⟨rfl,rfl⟩:=hb';subst ht';refine⟨b,_,_,xs,ys,rfl,hL,hd,hL2,hd2,fun B h=>⟨hB B fun n hn=>h n ?_,hB2 B fun n hn=>h n ?_⟩,by rw[hx];exact⟨_,_,rfl,hw,hw2⟩⟩
 ·rw[hx];simp only[DataW.weights,Tryz.underlying36];exact List.mem_append_left _ hn
 ·rw[hx];simp only[DataW.weights,Tryz.underlying36];exact List.mem_append_right _ (List.mem_append_left _ hn)
end
def rawN(b:Bool)(xs:List Nat):Int:=sgn b (val W xs)
def rawD(ys:List Nat):Nat:=if val W ys=0 then 1 else val W ys
def rawR(b:Bool)(xs ys:List Nat):Rat:=mkRat (rawN b xs) (rawD ys)
theorem RawQ.isQ{w:World}{v:Value}{b:Bool}{xs ys:List Nat}(h:RawQ w v b xs ys)(dx:Dig W xs)(dy:Dig W ys)(h1:xs.length≤LIM)(h2:ys.length≤LIM):IsQ w v (rawN b xs) (rawD ys):=by
 obtain⟨s,t,rfl,hs,ht⟩:=h;exact⟨b,s,t,val W xs,val W ys,rfl,⟨xs,hs,h1,dx,rfl⟩,rfl,⟨ys,ht,h2,dy,rfl⟩,rfl⟩
theorem rawD_sz{ys:List Nat}(dy:Dig W ys):sz W (rawD ys)≤max ys.length 1:=by
 unfold rawD
 split
 ·rw[show sz W 1=1 from rfl];omega
 ·exact Nat.le_trans (dg_len_val W_gt dy) (by omega)
theorem rawN_sz{b:Bool}{xs:List Nat}(dx:Dig W xs):szZ (rawN b xs)≤xs.length:=by
 unfold rawN szZ;rw[sgn_natAbs];exact dg_len_val W_gt dx
theorem RawQ.isR{w:World}{v:Value}{b:Bool}{xs ys:List Nat}(h:RawQ w v b xs ys)(dx:Dig W xs)(dy:Dig W ys)(k:Nat)(h1:xs.length≤k)(h2:ys.length≤k)(hk:1≤k)(hk2:k≤LIM):IsR w v (rawR b xs ys) k:=by
 have:=rawD_sz dy
 have:=rawN_sz (b:=b) dx
 exact⟨_,_,h.isQ dx dy (by omega) (by omega),rfl,by omega,by omega⟩
theorem W_TK:W<TK^5:=by
 rw[W_eq,TK_eq]
 decide
theorem szTK_le(n:Nat):sz TK n≤5*sz W n:=by
 refine dg_len_le TK_gt ?_;rw[Nat.pow_mul];exact Nat.lt_of_lt_of_le (dg_len_lt W_gt n) (Nat.pow_le_pow_left (Nat.le_of_lt W_TK) _)
theorem RawQ.opn2{w:World}{v:Value}{b:Bool}{xs ys:List Nat}(h:RawQ w v b xs ys):∃ad n cap ad2 m cap2,n=xs.length∧m=ys.length∧v= .agg #[.bool b,.slice ad n cap,.slice ad2 m cap2]:=by
 obtain⟨s,t,rfl,⟨ad,cap,rfl,_⟩,⟨ad2,cap2,rfl,_⟩⟩:=h;exact⟨_,_,_,_,_,_,rfl,rfl,rfl⟩
theorem mkRat_one(z:Int):mkRat z 1=(z:Rat):=by
 have h:=Rat.mkRat_self (z:Rat)
 rwa [Rat.num_intCast,Rat.den_intCast]at h
theorem szD_int(z:Int):szD (z:Rat)≤max (szT z) 1:=by
 have h:=szD_mkRat z 1 (by omega);rw[mkRat_one]at h
 have:sz TK 1≤1:=by
  refine dg_len_le TK_gt ?_;rw[TK_eq]
  decide
 unfold szD
 omega
theorem cmpR_lt{a b:Rat}:cmpR a b<0↔a<b:=by
 unfold cmpR
 grind
theorem FrZd.opn{B0:Nat}{w:World}{v:Value}{z:Int}(h:FrZd B0 w v z):∃b ad l cap,v= .agg #[.bool b,.slice ad l cap]∧FrZd B0 w (.agg #[.bool b,.slice ad l cap]) z:=by
 have h':=h;obtain⟨s,rfl,hn⟩:=h;obtain⟨ad,cap,rfl⟩:=hn.slice;exact⟨_,_,_,_,rfl,h'⟩
section
variable {P:Program} {o:Oper} {a:Act} {f:Nat→Value} {w:World} {post:Value→World→Prop}
theorem addr_add(g off j:Nat):(⟨g,off,none⟩:Addr).add j=⟨g,off+j,none⟩:=by unfold Addr.add;split<;>simp_all
theorem run_loadVar_at(w:World)(g off:Nat)(ty:TypeId)(cs:Array Value)(d:TypeDesc)(hg:∀j v,cs[j]? =some v→w.cell? ⟨g,off+j,none⟩=some v)
  (hu:P.underlying ty=some d) (hd:(match d with | .struct _ | .array _ _=>true |_=>false)=true) (hi:(P.info? ty).map (·.size)=some cs.size):
  (loadVar ty ⟨g,off,none⟩).run P w= .ok (.agg cs) w:=by
 have hl:(loadCells ⟨g,off,none⟩ cs.toList.length).run P w= .ok cs.toList.toArray w:=
  run_loadCells_list (P:=P) w ⟨g,off,none⟩ cs.toList (fun j v hv=>by
   rw[addr_add]
   exact hg j v (by simpa using hv))
 cases hq:P.info? ty with
 |none=>simp [hq]at hi
 |some i=>
  have hs:i.size=cs.size:=by simpa[hq]using hi
  have hagg:(isAgg ty).run P w= .ok true w:=by
   unfold isAgg;rw[Sem.run_bind,run_underlying hu w]
   cases d<;>simp_all
  simp only[Array.length_toList,Array.toArray_toList]at hl
  simp[loadVar,Sem.run_bind,hagg,sizeOf,typeInfo,hq,hs,hl]
theorem og_loadAt(ty:TypeId)(x:Operand)(g off:Nat)(cs:Array Value)(d:TypeDesc)(hgd:o.guard=none)(ho:o.op= .load ty x)(hx:a.eval x= .pointer (some ⟨g,off,none⟩))(hg:∀j v,cs[j]? =some v→w.cell? ⟨g,off+j,none⟩=some v)
  (hu:P.underlying ty=some d) (hd:(match d with | .struct _ | .array _ _=>true |_=>false)=true) (hi:(P.info? ty).map (·.size)=some cs.size) (hp:post (.agg cs) w):OpGoal P o a f w Ext post:=by
 unfold OpGoal;rw[hgd];unfold Oper.wp execOp;simp only[ho,hx,Instr.loadAt,Instr.sureAddr,Sem.run_bind,Sem.run_pure,Result.andThen_ok,run_loadVar_at w g off ty cs d hg hu hd hi];exact⟨_,rfl,Ext.refl w,hp⟩
theorem og_buildSlice(t e:TypeId)(n s:Nat)(parts:Array (Nat×Operand))(vs:List Value)(hgd:o.guard=none)(ho:o.op= .buildSlice t n parts)(hu:P.underlying t=some (.slice e))(hi:(P.info? e).map (·.size)=some s)(hz:((P.info? e).bind (·.zero)).isSome=true)
  (hp:(parts.toList.map fun x=>(x.1,a.eval x.2))=(vs.zipIdx 0).map fun x=>(x.2,x.1)) (hn:n=vs.length) (h0:0<n) (hs0:0<s) (hsm:n*s≤2^24) (hv:∀v∈vs,v.cells.size=s)
  (hq:∀w',Ext w w'→Bx e w' w.heap.size (vs.flatMap fun v=>v.cells.toList).toArray→post (.slice (some ⟨w.heap.size,0,none⟩) n n) w'):OpGoal P o a f w Ext post:=by
 unfold OpGoal;rw[hgd]
 cases hie:P.info? e with
 |none=>simp [hie]at hi
 |some ie=>
  simp only[hie,Option.map_some,Option.some.injEq,Option.bind_some]at hi hz;obtain⟨z,hzz⟩:=Option.isSome_iff_exists.1 hz;have hpos:0<n*s:=Nat.mul_pos h0 hs0
  have hb:Bx e (w.alloc (.cells (vs.flatMap fun(v:Value)=>v.cells.toList).toArray e)) w.heap.size (vs.flatMap fun(v:Value)=>v.cells.toList).toArray:=heap_alloc_new w _
  have hq':=hq _ ((Ext.refl w).alloc _) hb;refine wp_buildSlice t e n parts ho (vs.flatMap fun v=>v.cells.toList).toArray ie z hu hie hzz (by rw[hi];omega) (by rw[hi];omega) ?_ ⟨_,rfl,(Ext.refl w).alloc _,hq'⟩;rw[Array.toList_map,hi];refine(congrArg _ hp).trans ?_;exact Great.fill_whole hs0 vs _ hv (by simp[hn])
end
def SL{α:Type}(n:Nat)(R:World→Value→α→Prop)(w:World)(u:Value)(xs:List α):Prop:=
 ∃ad cap,u= .slice ad xs.length cap∧xs.length≤cap∧cap≤9223372036854775807∧
  (xs=[]∨∃g off,ad=some ⟨g,off,none⟩∧∀(i:Nat) (x:α),xs[i]? =some x→∃cs:Array Value,cs.size=n∧(∀(j:Nat) (v:Value),cs[j]? =some v→w.cell? ⟨g,off+i*n+j,none⟩=some v)∧R w (.agg cs) x)
theorem SL.opn{α:Type}{n:Nat}{R:World→Value→α→Prop}{w:World}{u:Value}{xs:List α}(h:SL n R w u xs):∃ad m cap,m=xs.length∧u= .slice ad m cap∧m≤9223372036854775807∧
  ∀(i:Nat) (x:α),xs[i]? =some x→∃g off,ad=some ⟨g,off,none⟩∧∃cs:Array Value,cs.size=n∧(∀wz,Ext w wz→∀(j:Nat) (v:Value),cs[j]? =some v→wz.cell? ⟨g,off+i*n+j,none⟩=some v)∧R w (.agg cs) x:=by
 obtain⟨ad,cap,h1,h2,h3,h4⟩:=h;refine⟨ad,_,cap,rfl,h1,by omega,fun i x hi=> ?_⟩
 rcases h4 with h4 |⟨g,off,h4,h5⟩
 ·subst h4;simp at hi
 ·obtain⟨cs,k1,k2,k3⟩:=h5 i x hi;exact⟨g,off,h4,cs,k1,fun wz hz j v hj=>hz.cell (k2 j v hj),k3⟩
theorem exists_list{α:Type}{p:Nat→α→Prop}:∀n:Nat,(∀i,i<n→∃y,p i y)→∃ys:List α,ys.length=n∧∀i y,ys[i]? =some y→p i y
 |0,_=>⟨[],rfl,fun i y h=>by simp at h⟩
 |n+1,h=>by
  obtain⟨ys,h1,h2⟩:=exists_list n fun i hi=>h i (by omega)
  obtain⟨y,hy⟩:=h n (by omega);refine⟨ys++ [y],by simp[h1],fun i z hz=> ?_⟩;rw[List.getElem?_append]at hz
  split at hz
  ·exact h2 i z hz
  ·have hi:i - ys.length=0:=by
    have:=(List.getElem?_eq_some_iff.1 hz).1
    simp at this
    omega
   rw[hi]at hz
   simp at hz
   subst hz;rw[show i=n by omega];exact hy
section
variable {H:Type} {enc:TypeId×Value→H} {P:Program} {w:World} {base:Nat} {spare:Nat→Bool} {held:Bool}
theorem weights_mem{e:TypeId}:∀{ds:List (DataW H)} {d:DataW H} {n:Nat},d∈ds→n∈d.weights P e→n∈DataW.weightsAll P e ds
 |d0::ds,d,n,hd,hn=>by
  unfold DataW.weightsAll
  rcases List.mem_cons.1 hd with rfl |hd
  ·exact List.mem_append_left _ hn
  ·exact List.mem_append_right _ (weights_mem hd hn)
theorem open_structs{α:Type}{n:Nat}{R:World→Value→α→Prop}{F:DataW H→α→Prop}{t e:TypeId}{fuel:Nat}{cs:List Value}{x:DataW H×List MemPlace}(B:Nat)(ht:P.underlying t=some (.slice e))(hc:P.cellsOf e=n)(hn:0<n)
  (hel:∀(fuel:Nat) (cs:List Value) (x:DataW H×List MemPlace),cs.length=n→(∀m∈x.1.weights P e,m≤B)→DataW.trod enc P w base spare held fuel e cs=some x→∃y,R w (.agg cs.toArray) y∧F x.1 y)
  (hB:∀m∈x.1.weights P t,m≤B) (h:DataW.trod enc P w base spare held fuel t cs=some x):
  ∃v ys,cs=[v]∧SL n R w v ys∧ys.length*P.bytesOf e≤B∧((x.1= .nil∧ys=[])∨∃ds rs,x.1= .slice ds rs∧ds.length=ys.length∧∀(i:Nat) (d:DataW H) (y:α),ds[i]? =some d→ys[i]? =some y→F d y):=by
 rcases Go.Deep.open_slice ht h with⟨rfl,rfl⟩ |⟨a,len,cap,m,k,D,Pl,rfl,hb,hl,hm,hmm,rfl,hx⟩
 ·exact⟨_,[],rfl,⟨none,0,rfl,Nat.le_refl _,by omega,.inl rfl⟩,by simp,.inl ⟨rfl,rfl⟩⟩
 ·have hlm:len≤m:=by rw[hmm];split<;>omega
  rw[hc]at hx
  have hW:∀i,i<len→∀q∈(D i).weights P e,q≤B:=fun i hi q hq=>hB q (by
   simp only[DataW.weights,ht]
   exact List.mem_cons_of_mem _ (List.mem_append_left _ (weights_mem (List.mem_map.2 ⟨i,by simpa using hi,rfl⟩) hq)))
  obtain⟨ys,hyl,hys⟩:=exists_list (p:=fun i y=>∃cs',w.cells? base (a.add (i*n)) n=some cs'∧R w (.agg cs'.toArray) y∧F (D i) y) len (fun i hi=>by
   obtain⟨cs',h1,h2⟩:=hx i (by omega);obtain⟨y,h3,h4⟩:=hel _ _ _ (World.cells?_some h1).2.1 (hW i hi) h2
   exact⟨y,cs',h1,h3,h4⟩)
  refine⟨_,ys,rfl,⟨some a,cap,by rw[hyl],by omega,by unfold maxLen at hm;omega,?_⟩,?_,.inr ⟨_,_,rfl,by simp[hyl],fun i d y hd hy=> ?_⟩⟩
  ·rcases Nat.eq_zero_or_pos len with h0 |h0
   ·exact .inl (List.eq_nil_of_length_eq_zero (by omega))
   ·obtain⟨b,off,rfl⟩:∃b off,a=⟨b,off,none⟩:=by
     obtain⟨y0,hy0⟩:∃y0,ys[0]? =some y0:=⟨_,List.getElem?_eq_getElem (by omega)⟩;obtain⟨cs',h1, -⟩:=hys 0 y0 hy0;obtain⟨-,hlen,hcell⟩:=World.cells?_some h1;have h2:=hcell 0 hn;rw[List.getElem?_eq_getElem (by omega)]at h2;obtain⟨b,off,spot⟩:=a
     have hspot:spot=none:=by simpa[Addr.add]using World.cell?_spot h2
     exact⟨b,off,by rw[hspot]⟩
    refine .inr ⟨b,off,rfl,fun i y hy=> ?_⟩;obtain⟨cs',h1,h3, -⟩:=hys i y hy;obtain⟨-,hlen,hcell⟩:=World.cells?_some h1;refine⟨cs'.toArray,by simpa using hlen,fun j v hj=> ?_,h3⟩
    have hj':cs'[j]? =some v:=by simpa using hj
    have hjn:j<n:=by rw[←hlen];exact(List.getElem?_eq_some_iff.1 hj').1
    have h2:=hcell j hjn;rw[hj',addr_add,addr_add]at h2;exact h2
  ·have:=hB (((List.range len).map D).length*P.bytesOf e+((List.range (m - len)).map fun j=>D (len+j)).length*P.bytesOf e) (by
    simp only[DataW.weights,ht,←Nat.add_mul]
    exact List.mem_cons_self ..)
   rw[hyl];simp only[List.length_map,List.length_range]at this
   omega
  ·obtain⟨cs', -, -,h4⟩:=hys i y hy
   have hi:i<len:=by rw[←hyl];exact(List.getElem?_eq_some_iff.1 hy).1
   rw[List.getElem?_map,List.getElem?_range hi]at hd;simp only[Option.map_some,Option.some.injEq]at hd;subst hd;exact h4
end
def RawE(w:World)(v:Value)(e:Bool×List Nat×List Nat):Prop:=RawQ w v e.1 e.2.1 e.2.2∧Dig W e.2.1∧Dig W e.2.2∧e.2.1.length+e.2.2.length≤9223372036854775807
def ratE(e:Bool×List Nat×List Nat):Rat:=rawR e.1 e.2.1 e.2.2
theorem RawE.ext{w w':World}{v:Value}{e:Bool×List Nat×List Nat}(h:RawE w v e)(he:Ext w w'):RawE w' v e:=⟨h.1.ext he,h.2⟩
def AnyInt(cs:Array Value):Prop:=cs=cs
def TChg(S:Nat)(w1 w2:World):Prop:=∃g t cs cs',S≤g∧t≠61∧t≠3∧AnyInt cs∧Bx t w1 g cs∧Bx t w2 g cs'∧Chg g w1 w2
theorem Own.tchg{S:Nat}{e:TypeId}{B:Nat}{w1 w2:World}{ad:Option Addr}{cap:Nat}{xs:List Value}(h:Own e B w1 ad cap xs)(hc:TChg S w1 w2)(he:e=61∨e=3):Own e B w2 ad cap xs:=by
 obtain⟨g,t,cs,cs',_,ht1,ht2,hno,hb,_,hch⟩:=hc
 rcases h with h |⟨g',cur,h1,h2,h3,h4⟩
 ·exact .inl h
 ·refine .inr ⟨g',cur,h1,h2,hch.blk h3 ?_,h4⟩;rintro rfl;unfold Bx at hb;rw[h3]at hb;simp only[Option.some.injEq,Obj.cells.injEq]at hb
  rcases he with he |he
  ·exact ht1 (hb.2.1▸he)
  ·exact ht2 (hb.2.1▸he)
theorem FrN.tchg{S:Nat}{w1 w2:World}{e:TypeId}{k:IntKind}{B B0 n:Nat}{v:Value}(h:FrN e k B B0 w1 v n)(hc:TChg S w1 w2)(he:e=61∨e=3):FrN e k B B0 w2 v n:=by
 obtain⟨ad,cap,h1,h2,h3,h4⟩:=h;exact⟨ad,cap,h1,h2,h3,h4.tchg hc he⟩
theorem FrQ.tchg{S:Nat}{w1 w2:World}{B0:Nat}{v:Value}{q:Rat}(h:FrQ B0 w1 v q)(hc:TChg S w1 w2):FrQ B0 w2 v q:=by
 obtain⟨s,t,h1,h2,h3⟩:=h;exact⟨s,t,h1,h2.tchg hc (.inl rfl),h3.tchg hc (.inl rfl)⟩
structure PT (S:Nat) where
 p:Value→World→Prop
 m:∀v w1 w2,Ext w1 w2→p v w1→p v w2
 m3:∀v w1 w2,TChg S w1 w2→p v w1→p v w2
def PT.any{S:Nat}:PT S:=⟨fun _ _=>True,fun _ _ _ _ h=>h,fun _ _ _ _ h=>h⟩
structure Sw (S:Nat) where
 s:Nat
 x:Al
 F:PT S
def swAt{S:Nat}:List (Sw S)→Nat→Option (Sw S)
 | [],_=>none
 |x::l,k=>if k=x.s then some x else swAt l k
def postT{S:Nat}(als:List Al)(sas:List (Sw S))(L:List (PT S))(j:Nat)(v:Value)(w:World):Prop:=alAt als j=none→swAt sas j=none→(L.getD j PT.any).p v w
def OweT{S:Nat}(P:Program)(fr:(Nat→Value)→Array Value)(df:List Deferred)(w:World)(als:List Al)(sas:List (Sw S))(L:List (PT S))(k:Nat)(o:Oper):Prop:=
 ∀f w1,Ext w w1→PostsOf (postT als sas L) f w1 o.after.toList→
  match alAt als k with
  |some x=>OpGoal P o ⟨fr f,df⟩ f w1 (fun a b=>b=a.alloc (.cells x.z x.t)) (fun v _=>v= .pointer (some ⟨w1.heap.size,0,none⟩))
  |none=>match swAt sas k with
   |some y=>∀g old,f y.x.a= .pointer (some ⟨g,0,none⟩)→S≤g→Bx y.x.t w1 g old→old.size=y.x.n→AnyInt old→
     OpGoal P o ⟨fr f,df⟩ f w1 (Chg g) (fun _ w2=>∃cs,Bx y.x.t w2 g cs∧cs.size=y.x.n∧AnyInt cs∧y.F.p (.agg cs) w2)
   |none=>OpGoal P o ⟨fr f,df⟩ f w1 Ext (L.getD k PT.any).p
def OwesT{S:Nat}(P:Program)(fr:(Nat→Value)→Array Value)(df:List Deferred)(w:World)(als:List Al)(sas:List (Sw S))(L:List (PT S)):List Oper→Nat→Prop
 | [],_=>True
 |o::l,k=>OweT P fr df w als sas L k o∧OwesT P fr df w als sas L l (k+1)
theorem owesT_at{S:Nat}{P:Program}{fr:(Nat→Value)→Array Value}{df:List Deferred}{w:World}{als:List Al}{sas:List (Sw S)}{L:List (PT S)}:
  ∀(l:List Oper) (k:Nat),OwesT P fr df w als sas L l k→∀i o,l[i]? =some o→OweT P fr df w als sas L (k+i) o
 | [],_,_,i,o,h=>by simp at h
 |x::l,k,hs,i,o,h=>by
  cases i with
  |zero=>
   simp only[List.getElem?_cons_zero,Option.some.injEq]at h;subst h;exact hs.1
  |succ i=>
   have:=owesT_at l (k+1) hs.2 i o (by simpa using h)
   rwa [show k+1+i=k+(i+1)by omega]at this
theorem tellT{S:Nat}{w1:World}{als:List Al}{sas:List (Sw S)}{L:List (PT S)}{f:Nat→Value}{l:List Edge}(hp:PostsOf (postT als sas L) f w1 l)(n j:Nat)
  (h:(match l[n]? with |some e=>Region.binds .any e&&e.on==j |none=>false)=true) (ha:alAt als j=none) (hs:swAt sas j=none):(L.getD j PT.any).p (f j) w1:=
 postsOf_nth l n j h hp ha hs
theorem endT{S:Nat}{w1:World}{als:List Al}{sas:List (Sw S)}{L:List (PT S)}{f:Nat→Value}{n:Nat}(hp:AllPosts (postT als sas L) f w1 n 0)(j:Nat)(hk:j<n)(ha:alAt als j=none)(hs:swAt sas j=none):(L.getD j PT.any).p (f j) w1:=
 allPosts_nth n 0 j (Nat.zero_le _) (by omega) hp ha hs
theorem all5{a b c d e:Value}(h0:a.oneCell'=true)(h1:b.oneCell'=true)(h2:c.oneCell'=true)(h3:d.oneCell'=true)(h4:e.oneCell'=true):(#[a,b,c,d,e]:Array Value).all (·.oneCell')=true:=by simp[h0,h1,h2,h3,h4]
structure Sg (S:Nat) where
 s:Nat
 g:Nat
 F:World→Prop
 m:∀w1 w2,Ext w1 w2→F w1→F w2
 m2:∀g',g'≠g→g'<S→∀w1 w2,Chg g' w1 w2→F w1→F w2
def sgAt{S:Nat}:List (Sg S)→Nat→Option (Sg S)
 | [],_=>none
 |x::l,k=>if k=x.s then some x else sgAt l k
theorem sgAt_mem{S:Nat}{l:List (Sg S)}{k:Nat}{x:Sg S}(h:sgAt l k=some x):x∈l∧x.s=k:=by
 induction l with
 |nil=>cases h
 |cons y l ih=>
  simp only[sgAt]at h
  split at h
  ·cases h;exact⟨List.mem_cons_self ..,by omega⟩
  ·exact⟨List.mem_cons_of_mem _ (ih h).1,(ih h).2⟩
def postG{S:Nat}(w:World)(sts:List (Sg S))(L:List (PP S))(k:Nat)(v:Value)(w1:World):Prop:=
 match sgAt sts k with
 |some x=>x.F w1
 |none=>((L.getD k PP.any).c=true→Ext w w1)→(L.getD k PP.any).p v w1
theorem tellG{S:Nat}{w w1:World}{sts:List (Sg S)}{L:List (PP S)}{f:Nat→Value}{l:List Edge}(hp:PostsOf (postG w sts L) f w1 l)(n j:Nat)
  (h:(match l[n]? with |some e=>Region.binds .any e&&e.on==j |none=>false)=true) (hs:sgAt sts j=none) (hc:(L.getD j PP.any).c=true→Ext w w1):(L.getD j PP.any).p (f j) w1:=by
 have:=postsOf_nth l n j h hp
 unfold postG at this;rw[hs]at this;exact this hc
theorem endGS{S:Nat}{w w1:World}{sts:List (Sg S)}{L:List (PP S)}{f:Nat→Value}{n:Nat}(hp:AllPosts (postG w sts L) f w1 n 0)(k:Nat)(hk:k<n):postG w sts L k (f k) w1:=
 allPosts_nth n 0 k (Nat.zero_le _) (by omega) hp
def OweG{S:Nat}(P:Program)(fr:(Nat→Value)→Array Value)(df:List Deferred)(w:World)(sts:List (Sg S))(L:List (PP S))(lates:List (Nat×Nat×Nat))(tmps:Array Value)(pre:List Nat)(k:Nat)(o:Oper):Prop:=
 ∀f w1,(if pre.contains k then Ext w w1 else ChgS (sts.map (·.g)) w w1)→PostsOf (postG w sts L) f w1 o.after.toList→LateFacts tmps f k lates→
  match sgAt sts k with
  |some x=>w1.heap[x.g]? =w.heap[x.g]? →OpGoal P o ⟨fr f,df⟩ f w1 (Chg x.g) (fun _ w2=>x.F w2)
  |none=>OpGoal P o ⟨fr f,df⟩ f w1 Ext (L.getD k PP.any).p
def OwesG{S:Nat}(P:Program)(fr:(Nat→Value)→Array Value)(df:List Deferred)(w:World)(sts:List (Sg S))(L:List (PP S))(lates:List (Nat×Nat×Nat))(tmps:Array Value)(pre:List Nat):List Oper→Nat→Prop
 | [],_=>True
 |o::l,k=>OweG P fr df w sts L lates tmps pre k o∧OwesG P fr df w sts L lates tmps pre l (k+1)
theorem owesG_at{S:Nat}{P:Program}{fr:(Nat→Value)→Array Value}{df:List Deferred}{w:World}{sts:List (Sg S)}{L:List (PP S)}{lates:List (Nat×Nat×Nat)}{tmps:Array Value}{pre:List Nat}:
  ∀(l:List Oper) (k:Nat),OwesG P fr df w sts L lates tmps pre l k→∀i o,l[i]? =some o→OweG P fr df w sts L lates tmps pre (k+i) o
 | [],_,_,i,o,h=>by simp at h
 |x::l,k,hs,i,o,h=>by
  cases i with
  |zero=>
   simp only[List.getElem?_cons_zero,Option.some.injEq]at h;subst h;exact hs.1
  |succ i=>
   have:=owesG_at l (k+1) hs.2 i o (by simpa using h)
   rwa [show k+1+i=k+(i+1)by omega]at this
theorem wp_region_putg{P:Program}{id:Nat}{l:List Oper}{Q:Exit→Act→World→Prop}{tmps:Array Value}{df:List Deferred}{w:World}{fr:(Nat→Value)→Array Value}
  (sts:List (Sg w.heap.size)) (L:List (PP w.heap.size)) (lates:List (Nat×Nat×Nat)) (pre:List Nat)
  (hm:P.follows .mixedOrders=true) (hok:(regOk l.toArray tmps.size&&lateOk l.toArray lates&&(sts.map (·.s)).all fun s=>ancOk l.toArray [s] (pre.filter (· !=s)))=true)
  (hfr:∀f,fillR l.toArray tmps f=fr f)
  (hlt:∀x∈sts,x.g<w.heap.size) (hs:∀x∈sts,sgAt sts x.s=some x) (hne:∀x∈sts,∀y∈sts,x.s≠y.s→x.g≠y.g)
  (hstep:OwesG P fr df w sts L lates tmps pre l 0)
  (hend:∀f w1,ChgS (sts.map (·.g)) w w1→AllPosts (postG w sts L) f w1 l.length 0→Q .normal ⟨fr f,df⟩ w1):
  (Code.region id l.toArray true).wp P Q ⟨tmps,df⟩ w:=by
 simp only[Bool.and_eq_true]at hok;obtain⟨⟨hok1,hok2⟩,hok3⟩:=hok
 have key:∀{w1 w2:World} {g:Nat},ChgS (sts.map (·.g)) w w1→w1.heap[g]? =w.heap[g]? →Chg g w1 w2→Ext w w2→g<w.heap.size→Ext w w1∧Ext w1 w2:=by
  intro w1 w2 g hG hg hR hE hgl
  have e1:Ext w w1:=⟨hG.1,hG.2.1,hG.2.2.1,hG.2.2.2.1,fun i hi _=>by
   by_cases hig:i=g
   ·rw[hig];exact hg
   ·rw[←hR.heap (Nat.lt_of_lt_of_le hi hG.2.2.2.1) hig];exact hE.heap hi⟩
  refine⟨e1,World.grownBy.os hR,World.grownBy.tape hR,World.grownBy.output hR,hR.size,fun i hi _=> ?_⟩
  by_cases hig:i=g
  ·rw[hig,hE.heap hgl,hg]
  ·exact hR.heap hi hig
 refine wp_region_posts (D:=fun _ _ _=>True) (G:=ChgS (sts.map (·.g))) (G0:=fun s w w1=>w.heap.size≤w1.heap.size∧∀x,sgAt sts s=some x→w1.heap[x.g]? =w.heap[x.g]?)
  (R:=fun i w1 w2=>match sgAt sts i with |some x=>Chg x.g w1 w2∧w1.heap[x.g]? =w.heap[x.g]? |none=>Ext w1 w2) (post:=postG w sts L) hm hok1 (fun _=>trivial) ((Ext.refl w).drew.chgS _) (fun s=>⟨(Ext.refl w).drew.size,fun _ _=>rfl⟩) ?_ ?_ ?_ ?_ ?_
 ·intro i w1 w2 hG hR
  cases hx:sgAt sts i with
  |none=>rw [hx]at hR;exact hG.trans (hR.chgS _)
  |some x=>rw [hx]at hR;exact hG.trans (hR.1.chgS (List.mem_map.2 ⟨x,(sgAt_mem hx).1,rfl⟩))
 ·intro s i w1 w2 his h hR
  have hsz:w1.heap.size≤w2.heap.size:=by
   cases hx:sgAt sts i with
   |none=>rw [hx]at hR;exact hR.size
   |some x=>rw [hx]at hR;exact hR.1.size
  refine⟨Nat.le_trans h.1 hsz,fun y hy=> ?_⟩;have hyl:=hlt y (sgAt_mem hy).1
  cases hx:sgAt sts i with
  |none=>rw [hx]at hR;exact(hR.heap (by have:=h.1;omega)).trans (h.2 y hy)
  |some x=>
   rw[hx]at hR
   have:=hne y (sgAt_mem hy).1 x (sgAt_mem hx).1 (by rw[(sgAt_mem hy).2,(sgAt_mem hx).2];omega)
   exact(hR.1.heap (by have:=h.1;omega) this).trans (h.2 y hy)
 ·intro i j v w1 w2 hij hG hR hp;unfold postG at hp ⊢
  cases hxj:sgAt sts j with
  |none=>
   rw[hxj]at hR
   cases hxi:sgAt sts i with
   |some x=>
    rw[hxi]at hp;exact x.m _ _ hR hp
   |none=>
    rw[hxi]at hp;intro hE;refine(L.getD i PP.any).m _ _ _ hR (hp fun hc=> ?_);have hE:=hE hc;exact⟨hG.1,hG.2.1,hG.2.2.1,hG.2.2.2.1,fun k hk _=>by rw[←hR.heap (Nat.lt_of_lt_of_le hk hG.2.2.2.1)];exact hE.heap hk⟩
  |some x=>
   rw[hxj]at hR;have hxl:=hlt x (sgAt_mem hxj).1
   cases hxi:sgAt sts i with
   |some y=>
    rw[hxi]at hp
    have:=hne y (sgAt_mem hxi).1 x (sgAt_mem hxj).1 (by rw[(sgAt_mem hxi).2,(sgAt_mem hxj).2];omega)
    exact y.m2 _ (fun h=>this h.symm) hxl _ _ hR.1 hp
   |none=>
    rw[hxi]at hp;intro hE
    cases hc:(L.getD i PP.any).c with
    |true=>
     obtain⟨e1,e2⟩:=key hG hR.2 hR.1 (hE hc) hxl;exact(L.getD i PP.any).m _ _ _ e2 (hp fun _=>e1)
    |false=>exact (L.getD i PP.any).m2 hc _ hxl _ _ _ hR.1 (hp fun h=>by rw[hc]at h;cases h)
 ·intro i o ho listed f w1 _ _ _ hG hpre hp hl;have hO:=owesG_at l 0 hstep i o (by simpa using ho);rw[Nat.zero_add]at hO;rw[hfr]
  have hE:(if pre.contains i then Ext w w1 else ChgS (sts.map (·.g)) w w1):=by
   split
   ·rename_i hpi
    refine⟨hG.1,hG.2.1,hG.2.2.1,hG.2.2.2.1,fun k hk _=> ?_⟩
    by_cases hk2:k∈sts.map (·.g)
    ·obtain⟨x,hx,rfl⟩:=List.mem_map.1 hk2;have hxs:=List.all_eq_true.1 hok3 x.s (List.mem_map.2 ⟨x,hx,rfl⟩)
     have hanc:Anc l.toArray i x.s:=by
      by_cases his:i=x.s
      ·rw[his];exact .self
      ·refine anc_of _ [x.s] (fun j hj=> ?_) hxs i (List.mem_filter.2 ⟨by simpa using hpi,by simpa using his⟩)
       have:j=x.s:=by simpa using hj
       rw[this];exact .self
     have h2:=(hpre x.s hanc).2;exact h2 x (hs x hx)
    ·exact hG.2.2.2.2 k hk hk2
   ·exact hG
  have hg:=hO f w1 hE (postsOf_of _ fun e he hb=>hp e (Array.mem_toList_iff.1 he) hb) (lateFacts_of hl lates hok2);unfold postG
  cases hx:sgAt sts i with
  |none=>
   simp only[hx]at hg;exact OpGoal.mono (fun _ h=>by simp only[hx];exact h) (fun v w' _ h=>⟨by simp only[hx];exact fun _=>h,trivial⟩) (fun h=>⟨by simp only[hx];exact fun _=>h,trivial⟩) hg
  |some x=>
   simp only[hx]at hg;have h0:=(hpre i .self).2 x hx;exact OpGoal.mono (fun w' h=>by simp only[hx];exact⟨h,h0⟩) (fun v w' _ h=>⟨by simp only[hx];exact h,trivial⟩) (fun h=>⟨by simp only[hx];exact h,trivial⟩) (hg h0)
 ·intro f w1 hG hp _;rw[hfr];exact hend f w1 hG (allPosts_of _ _ fun i _ hi=>hp i (by simpa using hi))
theorem rqsmall3_calls(z:Int)(w:World)(h0: -9223372036854775808≤z)(h1:z≤9223372036854775807):
  Calls Tryz.prog 37 #[.int .i64 z] w fun e w'=>∃v',e= .returned v'∧FrQd w.heap.size w' v' (z:Rat)∧Ext w w':=by
 have hq1:mkRat z 1=(z:Rat):=mkRat_one z
 have hzs:=szT_small (z:=z) (by omega)
 go_enter Tryz.func37,Tryz.ntmps37
 obtain⟨w1,hw1,e1,b1,s1⟩:=alloc1 w #[.bool false,.slice none 0 0,.slice none 0 0] 66;go_wp2_with fail;rw[←hw1];refine(zsmall2_calls z _ h0 h1).mono ?_;rintro e w2 ⟨v2,rfl,z2,e2⟩;obtain⟨b,ad,l,cap,rfl,z2⟩:=FrZd.opn z2;obtain⟨w3,hw3,e3,b3,s3⟩:=alloc1 w2 #[.int .i64 1] 3
 have hone:IsN .i64 TK w3 (.slice (some ⟨w2.heap.size,0,none⟩) 1 1) 1:=
  ⟨[1],⟨_,1,rfl,Nat.le_refl _,by omega,.inr ⟨_,0,rfl,fun i v hi=>by rw[Nat.zero_add];exact(b3.cell i).trans (by simpa[vals]using hi)⟩⟩,by rw[LIM_eq];simp,fun y hy=>(by simpa using hy:y=1)▸(by rw[TK_eq];omega),by simp[val]⟩
 go_wp2_with fail;rw[←hw3];have e13:=e2.trans e3;refine(lowest3z_calls _ _ z 1 _ (z2.cz.ext e3) hone (by omega) (by omega) (by rw[show sz TK 1=1 from rfl];omega)).mono ?_;rw[hq1];rintro e w5 ⟨v5,rfl,h5,e5⟩;obtain⟨s',t',rfl,hn,hm⟩:=h5;obtain⟨ad5,cap5,rfl⟩:=hn.slice;obtain⟨ad6,cap6,rfl⟩:=hm.slice;have Hn5:=Lib.hid hn;have Hm5:=Lib.hid hm;have hsz:=e2.size;clear hn hm;have hb:=b1.ext (e13.trans e5);have hc0:=hb.cell 0;have hc1:=hb.cell 1;have hc2:=hb.cell 2;have hf0:=hb.free 0;have hf1:=hb.free 1;have hf2:=hb.free 2;go_wp2;refine ret_box 2 66 w.heap.size 66 _ _ (by kernel_rfl) rfl (((hb.set 0 _).set 1 _).set 2 _) Tryz.underlying66 rfl (by kernel_rfl) rfl ?_;exact⟨_,rfl,⟨_,_,rfl,(Hn5.out.chg (Chg.trans (Chg.trans (Chg.setCell _ w.heap.size 0 _) (Chg.setCell _ w.heap.size 1 _)) (Chg.setCell _ w.heap.size 2 _)) (by omega)).mono (by omega),(Hm5.out.chg (Chg.trans (Chg.trans (Chg.setCell _ w.heap.size 0 _) (Chg.setCell _ w.heap.size 1 _)) (Chg.setCell _ w.heap.size 2 _)) (by omega)).mono (by omega)⟩,(e1.trans (e13.trans e5)).step (Chg.trans (Chg.trans (Chg.setCell _ w.heap.size 0 _) (Chg.setCell _ w.heap.size 1 _)) (Chg.setCell _ w.heap.size 2 _)) (by omega)⟩
end Go.Proofs.YthoibjnkhkjnjaaGreat
