/-
 Constraints: sums of constraints (cons.Combine).
-/
import Derived.Test.YtokfaggcojokgaaGreatCneZ
namespace Go.Proofs.YtokfaggcojokgaaGreat
set_option maxRecDepth 100000
set_option maxHeartbeats 1000000
open Go.RowKit
set_option linter.unusedVariables false
set_option linter.unusedSimpArgs false
section
variable {P:Program} {o:Oper} {a:Act} {f:Nat→Value} {w:World} {post:Value→World→Prop}
theorem og_storeAt(g off:Nat)(t ty:TypeId)(cur:List Value)(cs:Array Value)(x y:Operand)(hgd:o.guard=none)(ho:o.op= .store ty x y)(hx:a.eval x= .pointer (some ⟨g,off,none⟩))(hy:a.eval y= .agg cs)
  (hty:(P.info? ty).map (·.size)=some cs.size) (hb:Bx t w g cur.toArray) (hfit:off+cs.size≤cur.length) (h1:cs.all (·.oneCell')=true) (h:∀w',Chg g w w'→Bx t w' g (laidS cur off cs.toList).toArray→∀u,post u w'):OpGoal P o a f w (Chg g) post:=by
 have hrun:=run_storeVar_at (P:=P) w g off t ty cur cs hb hty hfit h1;unfold OpGoal;rw[hgd];unfold Oper.wp execOp;simp only[ho,hx,hy,Instr.storeAt,Instr.sureAddr,Sem.run_bind,Sem.run_pure,Result.andThen_ok,hrun];exact⟨_,rfl,Chg.setRow w g _,h _ (Chg.setRow w g _) (Bx.setRow hb _) _⟩
theorem run_storeS{P:Program}(w:World)(g off:Nat)(t ty:TypeId)(cur:List Value)(ad:Option Addr)(n c:Nat)(hg:w.heap[g]? =some (.cells cur.toArray t (0,0)))(hi:(P.info? ty).map (·.size)=some 1)(hfit:off<cur.length):
  (storeVar ty ⟨g,off,none⟩ (.slice ad n c)).run P w= .ok () (w.setRow g (cur.set off (.slice ad n c)).toArray):=by
 have hst:=run_storeCells_at P g off t [.slice ad n c] 0 cur.toArray w hg (by simp;omega) (fun u hu=>by
  have:u= .slice ad n c:=by simpa using hu
  subst this
  rfl)
 cases hq:P.info? ty with
 |none=>simp [hq]at hi
 |some i=>
  have hs:i.size=1:=by simpa[hq]using hi
  have hc:(Value.slice ad n c).cells=#[.slice ad n c]:=rfl
  have hset:cur.set off (.slice ad n c)=cur.take off++ .slice ad n c::cur.drop (off+1):=by rw[List.set_eq_take_append_cons_drop,if_pos hfit]
  simp only[Nat.add_zero]at hst
  simp[storeVar,sizeOf,typeInfo,hq,hc,hs,hset,hst]
theorem og_storeS(g c:Nat)(t ty:TypeId)(cur:List Value)(ad:Option Addr)(n m:Nat)(x y:Operand)(hgd:o.guard=none)(ho:o.op= .store ty x y)(hx:a.eval x= .pointer (some ⟨g,c,none⟩))(hy:a.eval y= .slice ad n m)
  (hty:(P.info? ty).map (·.size)=some 1) (hb:Bx t w g cur.toArray) (hc:c<cur.length) (h:∀w',Chg g w w'→Bx t w' g (cur.set c (.slice ad n m)).toArray→∀u,post u w'):OpGoal P o a f w (Chg g) post:=by
 have hrun:=run_storeS (P:=P) w g c t ty cur ad n m hb hty hc;unfold OpGoal;rw[hgd];unfold Oper.wp execOp;simp only[ho,hx,hy,Instr.storeAt,Instr.sureAddr,Sem.run_bind,Sem.run_pure,Result.andThen_ok,hrun];exact⟨_,rfl,Chg.setRow w g _,h _ (Chg.setRow w g _) (Bx.setRow hb _) _⟩
end
theorem ChgS.one{g:Nat}{w w':World}(h:ChgS [g] w w'):Chg g w w':=⟨h.1,h.2.1,h.2.2.1,h.2.2.2.1,fun k hk n=>h.2.2.2.2 k hk (fun hm=>by rw[List.mem_singleton]at hm;subst hm;exact n rfl)⟩
theorem sgn_zero:(0:Rat).num.sign=0:=by decide+kernel
theorem sgn_cmp(q:Rat):q.num.sign=cmpR q 0:=by
 have h:=num_sign q 0
 rwa [show q - 0=q by grind]at h
theorem sgn_pos{q:Rat}(h:0<q):q.num.sign=1:=by
 rw[sgn_cmp];unfold cmpR;rw[if_neg (by grind),if_neg (by grind)]
theorem sgn_neg{q:Rat}(h:q<0):q.num.sign= -1:=by
 rw[sgn_cmp];unfold cmpR;rw[if_pos h]
theorem rat_two{q:Rat}(h:q≠0):q<0∨0<q:=by grind
theorem rule_sign{s:Int}{q:Rat}{c:CR}(hq:q≠0):ruleQ s q c=(decide (c.1=3) || decide (signI c.1 s=q.num.sign)):=by
 rw[Bool.eq_iff_iff,ruleQ_iff,Bool.or_eq_true,decide_eq_true_iff,decide_eq_true_iff];unfold signI
 rcases rat_two hq with h |h
 ·rw[sgn_neg h]
  have hn:¬0<q:=fun h'=>(by grind)
  constructor
  ·rintro(h1 |h1 |⟨h1,h2⟩)
   ·exact absurd h1 hq
   ·exact .inl h1
   ·by_cases h3:c.1=3
    ·exact .inl h3
    ·rw[if_neg h3,if_neg h1]
     rcases h2 with h2 |h2
     ·exact absurd h2.2 hn
     ·rw[if_neg h2.1];exact .inr rfl
  ·rintro(h1 |h1)
   ·exact .inr (.inl h1)
   ·by_cases h3:c.1=3
    ·exact .inr (.inl h3)
    ·rw[if_neg h3]at h1
     split at h1
     ·omega
     ·rename_i h4
      split at h1
      ·omega
      ·rename_i h5
       exact .inr (.inr ⟨h4,.inr ⟨h5,h⟩⟩)
 ·rw[sgn_pos h]
  have hn:¬q<0:=fun h'=>(by grind)
  constructor
  ·rintro(h1 |h1 |⟨h1,h2⟩)
   ·exact absurd h1 hq
   ·exact .inl h1
   ·by_cases h3:c.1=3
    ·exact .inl h3
    ·rw[if_neg h3,if_neg h1]
     rcases h2 with h2 |h2
     ·rw[if_pos h2.1];exact .inr rfl
     ·exact absurd h2.2 hn
  ·rintro(h1 |h1)
   ·exact .inr (.inl h1)
   ·by_cases h3:c.1=3
    ·exact .inr (.inl h3)
    ·rw[if_neg h3]at h1
     split at h1
     ·omega
     ·rename_i h4
      split at h1
      ·rename_i h5
       exact .inr (.inr ⟨h4,.inl ⟨h5,h⟩⟩)
      ·omega
theorem rule_zero(s:Int)(c:CR):ruleQ s 0 c=true:=ruleQ_iff.2 (.inl rfl)
theorem termsC_get{cs:List CR}{i:Nat}{c:CR}(h:cs[i]? =some c):(termsC cs)[i]? =some c.2.1:=by unfold termsC;rw[List.getElem?_map,h];rfl
theorem getD_of{α:Type}{l:List α}{d:α}{i:Nat}{x:α}(h:l[i]? =some x):l.getD i d=x:=by rw[List.getD_eq_getElem?_getD,h];rfl
theorem rulesN_succ{s:Int}{qs:List Rat}{cs:List CR}{i:Nat}{q:Rat}{c:CR}(hq:qs[i]? =some q)(hc:cs[i]? =some c):rulesN s qs cs (i+1)=(rulesN s qs cs i&&ruleQ s q c):=by
 rw[rulesN,getD_of hq,getD_of hc]
theorem rhsN_succ{qs:List Rat}{cs:List CR}{i:Nat}{q:Rat}{c:CR}(hq:qs[i]? =some q)(hc:cs[i]? =some c):rhsN qs cs (i+1)=rhsN qs cs i+q*c.2.2:=by
 unfold rhsN;rw[sumN,getD_of hq,getD_of hc]
theorem rhsN_sz{ky k:Nat}{qs:List Rat}{cs:List CR}(hy:∀y∈qs,szQ y≤ky)(hc:∀c∈cs,szQ c.2.2≤k):∀n,n≤qs.length→n≤cs.length→szQ (rhsN qs cs n)≤n*(ky+k+1)+1
 |0,_,_=>by rw[Nat.zero_mul];exact szQ_zero
 |n+1,h1,h2=>by
  have ih:=rhsN_sz hy hc n (by omega) (by omega)
  have e1:qs[n]? =some qs[n]:=List.getElem?_eq_getElem (by omega)
  have e2:cs[n]? =some cs[n]:=List.getElem?_eq_getElem (by omega)
  rw[rhsN_succ e1 e2,Nat.succ_mul]
  have:=szQ_add ih (szQ_mul (hy _ (List.getElem_mem (show n<qs.length by omega))) (hc _ (List.getElem_mem (show n<cs.length by omega))))
  omega
theorem mkC_step{qs:List Rat}{cs:List CR}{i:Nat}{q:Rat}{c:CR}(hq:qs[i]? =some q)(hc:cs[i]? =some c):mkV (mkV (catN qs (termsC cs) i)++scV q c.2.1)=mkV (catN qs (termsC cs) (i+1)):=by
 rw[mk_more,catN_snoc hq (termsC_get hc)]
theorem mkC_skip{qs:List Rat}{cs:List CR}{i:Nat}{c:CR}(hq:qs[i]? =some 0)(hc:cs[i]? =some c):mkV (catN qs (termsC cs) (i+1))=mkV (catN qs (termsC cs) i):=by
 rw[catN_snoc hq (termsC_get hc)]
 refine mkV_congr fun d=> ?_
 rw[getV_append,scV_get,Rat.zero_mul,Rat.add_zero]
theorem rhsN_skip{qs:List Rat}{cs:List CR}{i:Nat}{c:CR}(hq:qs[i]? =some 0)(hc:cs[i]? =some c):rhsN qs cs (i+1)=rhsN qs cs i:=by
 rw[rhsN_succ hq hc,Rat.zero_mul,Rat.add_zero]
def codeN(b:Bool):Int:=if b then 0 else 241
def SumT(B K g:Nat)(s:Int)(b:Bool)(a1:Option Addr)(n1 c1:Nat)(a2:Option Addr)(n2 c2:Nat)(m:List (Int×Rat))(w:World):Prop:=
 ∃a n p,Bx 36 w g #[.int .i64 s,.slice a n p,.bool b,.slice a1 n1 c1,.slice a2 n2 c2]∧TO B K w (.slice a n p) m
theorem SumT.ext{B K g:Nat}{s:Int}{b:Bool}{a1:Option Addr}{n1 c1:Nat}{a2:Option Addr}{n2 c2:Nat}{m:List (Int×Rat)}{w w':World}(h:SumT B K g s b a1 n1 c1 a2 n2 c2 m w)(he:Ext w w'):SumT B K g s b a1 n1 c1 a2 n2 c2 m w':=by
 obtain⟨a,n,p,h1,h2⟩:=h;exact⟨a,n,p,h1.ext he,h2.ext he⟩
theorem SumT.chg{B K g g':Nat}{s:Int}{b:Bool}{a1:Option Addr}{n1 c1:Nat}{a2:Option Addr}{n2 c2:Nat}{m:List (Int×Rat)}{w w':World}(h:SumT B K g s b a1 n1 c1 a2 n2 c2 m w)(he:Chg g' w w')(hne:g'≠g)(hg:g'<B):SumT B K g s b a1 n1 c1 a2 n2 c2 m w':=by
 obtain⟨a,n,p,h1,h2⟩:=h;exact⟨a,n,p,h1.chg he (by omega),h2.chg he hg⟩
def SumR(B R g:Nat)(s:Int)(a:Option Addr)(n p:Nat)(r:Rat)(w:World):Prop:=
 ∃b a1 n1 c1 a2 n2 c2,Bx 36 w g #[.int .i64 s,.slice a n p,.bool b,.slice a1 n1 c1,.slice a2 n2 c2]∧FrQ B w (.agg #[.bool b,.slice a1 n1 c1,.slice a2 n2 c2]) r∧szQ r≤R
theorem SumR.ext{B R g:Nat}{s:Int}{a:Option Addr}{n p:Nat}{r:Rat}{w w':World}(h:SumR B R g s a n p r w)(he:Ext w w'):SumR B R g s a n p r w':=by
 obtain⟨b,a1,n1,c1,a2,n2,c2,h1,h2,h3⟩:=h;exact⟨b,a1,n1,c1,a2,n2,c2,h1.ext he,h2.ext he,h3⟩
theorem SumR.chg{B R g g':Nat}{s:Int}{a:Option Addr}{n p:Nat}{r:Rat}{w w':World}(h:SumR B R g s a n p r w)(he:Chg g' w w')(hne:g'≠g)(hg:g'<B):SumR B R g s a n p r w':=by
 obtain⟨b,a1,n1,c1,a2,n2,c2,h1,h2,h3⟩:=h;exact⟨b,a1,n1,c1,a2,n2,c2,h1.chg he (by omega),h2.chg he hg,h3⟩
def CmJ(w:World)(K R g6 g9:Nat)(s:Int)(qs:List Rat)(cs:List CR)(i:Nat)(wr:World):Prop:=
 Ext w wr∧(g6≠g9∧w.heap.size≤g6∧w.heap.size≤g9)∧Bx 36 wr g6 #[.int .i64 0,.slice none 0 0,.bool false,.slice none 0 0,.slice none 0 0]∧
 ∃a n p b a1 n1 c1 a2 n2 c2,Bx 36 wr g9 #[.int .i64 s,.slice a n p,.bool b,.slice a1 n1 c1,.slice a2 n2 c2]∧TO w.heap.size K wr (.slice a n p) (mkV (catN qs (termsC cs) i))∧FrQ w.heap.size wr (.agg #[.bool b,.slice a1 n1 c1,.slice a2 n2 c2]) (rhsN qs cs i)∧szQ (rhsN qs cs i)≤R
theorem CmJ.ext{w wr w':World}{K R g6 g9:Nat}{s:Int}{qs:List Rat}{cs:List CR}{i:Nat}(h:CmJ w K R g6 g9 s qs cs i wr)(he:Ext wr w'):CmJ w K R g6 g9 s qs cs i w':=by
 obtain⟨h1,h2,h3,a,n,p,b,a1,n1,c1,a2,n2,c2,h4,h5,h6,h7⟩:=h;exact⟨h1.trans he,h2,h3.ext he,a,n,p,b,a1,n1,c1,a2,n2,c2,h4.ext he,h5.ext he,h6.ext he,h7⟩
theorem CmJ.same{w wr:World}{K R g6 g9:Nat}{s:Int}{qs:List Rat}{cs:List CR}{i j:Nat}(h:CmJ w K R g6 g9 s qs cs i wr)(e1:mkV (catN qs (termsC cs) j)=mkV (catN qs (termsC cs) i))(e2:rhsN qs cs j=rhsN qs cs i):CmJ w K R g6 g9 s qs cs j wr:=by
 obtain⟨h1,h2,h3,a,n,p,b,a1,n1,c1,a2,n2,c2,h4,h5,h6,h7⟩:=h;exact⟨h1,h2,h3,a,n,p,b,a1,n1,c1,a2,n2,c2,h4,e1▸h5,e2▸h6,e2▸h7⟩
def CombP(w:World)(K:Nat)(cs:List CR)(qs:List Rat)(s:Int)(e:Ending)(w':World):Prop:=
 ∃v',e= .returned (.tuple #[v',.int .i64 (combE cs qs s)])∧Ext w w'∧(combE cs qs s=0→CnO w.heap.size K w' v' (combV cs qs s))∧(combE cs qs s≠0→v'=zeroC)
theorem combE_2{cs:List CR}{qs:List Rat}{s:Int}(h:sens s=false∨cs.length≠qs.length∨∃c∈cs,sens c.1=false):combE cs qs s=2:=by
 unfold combE
 refine if_neg fun hc=> ?_
 simp only[Bool.and_eq_true,decide_eq_true_iff,List.all_eq_true]at hc
 rcases h with h |h |⟨c,h1,h2⟩
 ·rw[h]at hc;cases hc.1.1
 ·exact h hc.1.2
 ·rw[hc.2 c h1]at h2;cases h2
theorem combE_r{cs:List CR}{qs:List Rat}{s:Int}(h1:sens s=true)(h2:cs.length=qs.length)(h3:∀c∈cs,sens c.1=true):combE cs qs s=codeN (rulesN s qs cs cs.length):=by
 unfold combE codeN;rw[if_pos];simp only[Bool.and_eq_true,decide_eq_true_iff,List.all_eq_true];exact⟨⟨h1,h2⟩,h3⟩
set_option maxHeartbeats 32000000 in
theorem combine_calls(k ky N M K R:Nat)(v u:Value)(cs0:List CR)(qs:List Rat)(s:Int)(w:World)(hv:CL k w v cs0)(hu:QL ky w u qs)(hN:∀c∈cs0,c.2.1.length≤N)(hM:cs0.length≤M)(h30:M*N+N≤1073741824)
  (hK:M*N*(ky+k+1)+1≤K) (hR:M*(ky+k+1)+1≤R) (hR2:R≤34359738000) (hax:(M*N+N+1)*(K+ky+k+1)≤34359738000) (h1:1≤R):
  Calls Tryz.prog 20 #[v,u,.int .i64 s] w fun e w'=>CombP w (max K R) cs0 qs s e w':=by
 have hszc:=hv.szs;have hszq:=hu.szs;obtain⟨ad,n,cap,hnl,rfl,hn1,hat⟩:=hv.at;obtain⟨adq,nq,capq,hnq,rfl,hnq1,hatq⟩:=hu.at
 have lim:68719476736≤LIM:=by rw[LIM_eq];omega
 have hKk:K+ky+k+1≤34359738000:=by
  have:1*(K+ky+k+1)≤(M*N+N+1)*(K+ky+k+1):=Nat.mul_le_mul_right _ (by omega)
  omega
 have HN:=Lib.hid hnl;have HNQ:=Lib.hid hnq;have HAT:=Lib.hid hat;have HATQ:=Lib.hid hatq;have HLN:=Lib.hid hN;have HSC:=Lib.hid (And.intro hszq hszc);have HKK:=Lib.hid (And.intro hK (And.intro hR hax));rw[←HN.out]at hM;clear hnl hnq hat hatq hv hu hN hszc hszq hK hR hax;obtain⟨g6,hg6⟩:∃g6,g6=w.heap.size:=⟨_,rfl⟩;obtain⟨w1,hw1,e1,b6,s1⟩:=alloc1 w #[.int .i64 0,.slice none 0 0,.bool false,.slice none 0 0,.slice none 0 0] 36;rw[←hg6]at b6;have HG6:=Lib.hid hg6
 go_enter Tryz.func20,Tryz.ntmps20
 go_wp2_with fail;rw[←hw1];rw[←hg6];refine(sensible_calls s w1).mono ?_;rintro e w2 ⟨rfl,e2⟩;have hs2:=e2.size;have E2:=e1.trans e2;have B2:=b6.ext e2
 have hgl:w.heap.size≤g6:=by omega
 have hgl2:g6<w2.heap.size:=by omega
 clear b6 hw1 e1 e2 hg6 s1
 cases hs:sens s with
 |false=>
  have HE:=Lib.hid (combE_2 (cs:=cs0) (qs:=qs) (s:=s) (.inl hs));have XB:=Lib.hid E2;clear hs E2;have hq:=B2;have hq0:=hq.cell 0;have hqf0:=hq.free 0;have hq1:=hq.cell 1;have hqf1:=hq.free 1;have hq2:=hq.cell 2;have hqf2:=hq.free 2;have hq3:=hq.cell 3;have hqf3:=hq.free 3;have hq4:=hq.cell 4;have hqf4:=hq.free 4;go_wp2;refine ret_box2 6 7 36 g6 36 _ _ _ (by kernel_rfl) rfl rfl (((((hq.set 0 _).set 1 _).set 2 _).set 3 _).set 4 _) Tryz.underlying36 rfl (by kernel_rfl) rfl ?_;exact⟨zeroC,by rw[HE.out];rfl,XB.out.step (((((Chg.setCell _ g6 0 _).trans (Chg.setCell _ g6 1 _)).trans (Chg.setCell _ g6 2 _)).trans (Chg.setCell _ g6 3 _)).trans (Chg.setCell _ g6 4 _)) (by omega),fun h=>(by rw[HE.out]at h;cases h),fun _=>rfl⟩
 |true=>
 have HS:=Lib.hid hs;clear hs
 by_cases hnn:n=nq
 case neg=>
  have hne:((n:Int) !=(nq:Int))=true:=by rw[bne_iff_ne];omega
  have HE:=Lib.hid (combE_2 (cs:=cs0) (qs:=qs) (s:=s) (.inr (.inl (by rw[←HN.out,←HNQ.out];exact hnn))));have XB:=Lib.hid E2;clear E2;have hq:=B2;have hq0:=hq.cell 0;have hqf0:=hq.free 0;have hq1:=hq.cell 1;have hqf1:=hq.free 1;have hq2:=hq.cell 2;have hqf2:=hq.free 2;have hq3:=hq.cell 3;have hqf3:=hq.free 3;have hq4:=hq.cell 4;have hqf4:=hq.free 4;go_wp2;refine ret_box2 6 7 36 g6 36 _ _ _ (by kernel_rfl) rfl rfl (((((hq.set 0 _).set 1 _).set 2 _).set 3 _).set 4 _) Tryz.underlying36 rfl (by kernel_rfl) rfl ?_;exact⟨zeroC,by rw[HE.out];rfl,XB.out.step (((((Chg.setCell _ g6 0 _).trans (Chg.setCell _ g6 1 _)).trans (Chg.setCell _ g6 2 _)).trans (Chg.setCell _ g6 3 _)).trans (Chg.setCell _ g6 4 _)) (by omega),fun h=>(by rw[HE.out]at h;cases h),fun _=>rfl⟩
 case pos=>
 subst hnn
 have hnf:((n:Int) !=(n:Int))=false:=by simp
 go_wp2_with fail;refine(rwhole_calls 0 w2 (by omega) (by omega)).mono ?_;rintro e w3 ⟨v3,rfl,hq3,e3⟩;obtain⟨b,a1,n1,c1,a2,n2,c2,rfl,hfr⟩:=FrQ.opn hq3;have hs3:=e3.size;obtain⟨w4,hw4,e4,b9,s4⟩:=alloc1 w3 #[.int .i64 s,.slice none 0 0,.bool b,.slice a1 n1 c1,.slice a2 n2 c2] 36;obtain⟨g9,hg9⟩:∃g9,g9=w3.heap.size:=⟨_,rfl⟩;have HJ0:Hid (CmJ w K R g6 g9 s qs cs0 0 w4):=Lib.hid ⟨(E2.trans e3).trans e4,⟨by omega,hgl,by omega⟩,(B2.ext e3).ext e4,none,0,0,b,a1,n1,c1,a2,n2,c2,by rw[hg9];exact b9,TO.nil0 _ _ _,(hfr.ext e4).mono (by omega),Nat.le_trans szQ_zero h1⟩;clear hq3 hfr b9 e3 e4 E2 B2 s4 hs3;go_wp2_with fail;rw[←hw4,←hg9];clear hw4 hg9
 go_loopw [8,31] (fun s8 s31 wr=>∃(i:Nat) (cd:Int),i≤n∧s31= .int .i64 (i:Int)∧s8= .int .i64 cd∧Hid (cd=codeN (rulesN s qs cs0 i))∧Hid (∀c∈cs0.take i,sens c.1=true)∧Hid (CmJ w K R g6 g9 s qs cs0 i wr)) (fun _ s31 _=>((n:Int) - intOf s31).toNat)
 case atStart=>exact ⟨0,0,Nat.zero_le _,rfl,rfl,Lib.hid rfl,Lib.hid (fun c hc=>by simp at hc),HJ0⟩
 case round=>
  obtain⟨i,cd,hi,rfl,rfl,HCD,HSN0,HJ⟩:=hrel;obtain⟨E0,HG',D,a,n',p,b,a1,n1,c1,a2,n2,c2,S,hto,hfr,hrs⟩:=HJ.out;have HG:=Lib.hid HG';obtain⟨hg69,hg6w,hg9w⟩:=HG';have HTO:=Lib.hid hto;have HSR0:=Lib.hid hfr;have HRS:=Lib.hid hrs;clear HJ hto hfr hrs HJ0
  rcases Nat.eq_or_lt_of_le hi with hin |hin
  ·subst hin
   have hlt:¬((i:Int)<(i:Int)):=by omega
   have hE:=combE_r (qs:=qs) HS.out (HN.out.symm.trans HNQ.out) (fun c hc=>HSN0.out c (by rw[HN.out,List.take_length];exact hc));rw[←HN.out,←HCD.out]at hE;have HC:=HCD.out
   cases hr:rulesN s qs cs0 i with
   |true=>
    rw[hr]at HC
    have h0:cd=0:=HC
    subst h0;have HE:=Lib.hid hE;have HV:=Lib.hid (show combV cs0 qs s=(s,mkV (catN qs (termsC cs0) i),rhsN qs cs0 i)by unfold combV;rw[←HN.out]);clear HC hE hr HCD;have hq:=D;have hp:=S;have hq0:=hq.cell 0;have hqf0:=hq.free 0;have hq1:=hq.cell 1;have hqf1:=hq.free 1;have hq2:=hq.cell 2;have hqf2:=hq.free 2;have hq3:=hq.cell 3;have hqf3:=hq.free 3;have hq4:=hq.cell 4;have hqf4:=hq.free 4;have hp0:=hp.cell 0;have hp1:=hp.cell 1;have hp2:=hp.cell 2;have hp3:=hp.cell 3;have hp4:=hp.cell 4;go_wp2;refine ret_box2 6 7 36 g6 36 _ _ _ (by kernel_rfl) rfl rfl (((((hq.set 0 _).set 1 _).set 2 _).set 3 _).set 4 _) Tryz.underlying36 rfl (by kernel_rfl) rfl ?_
    refine⟨_,by rw[HE.out]<;>rfl,E0.step (((((Chg.setCell _ g6 0 _).trans (Chg.setCell _ g6 1 _)).trans (Chg.setCell _ g6 2 _)).trans (Chg.setCell _ g6 3 _)).trans (Chg.setCell _ g6 4 _)) (by omega),fun _=> ?_,fun h=>absurd HE.out h⟩
    rw[HV.out];exact⟨a,n',p,b,a1,n1,c1,a2,n2,c2,rfl,(TO.chgB HTO.out ((((((Chg.setCell _ g6 0 _).trans (Chg.setCell _ g6 1 _)).trans (Chg.setCell _ g6 2 _)).trans (Chg.setCell _ g6 3 _)).trans (Chg.setCell _ g6 4 _)):Chg g6 _ _) D (by decide) (by decide)).le (Nat.le_max_left ..),FrQ.chgB HSR0.out ((((((Chg.setCell _ g6 0 _).trans (Chg.setCell _ g6 1 _)).trans (Chg.setCell _ g6 2 _)).trans (Chg.setCell _ g6 3 _)).trans (Chg.setCell _ g6 4 _)):Chg g6 _ _) D (by decide),Nat.le_trans HRS.out (Nat.le_max_right ..)⟩
   |false=>
    rw[hr]at HC
    have h0:cd=241:=HC
    subst h0;have HE:=Lib.hid hE;have XB:=Lib.hid E0;clear HC hE hr HCD E0;have hq:=D;have hq0:=hq.cell 0;have hqf0:=hq.free 0;have hq1:=hq.cell 1;have hqf1:=hq.free 1;have hq2:=hq.cell 2;have hqf2:=hq.free 2;have hq3:=hq.cell 3;have hqf3:=hq.free 3;have hq4:=hq.cell 4;have hqf4:=hq.free 4;go_wp2;refine ret_box2 6 7 36 g6 36 _ _ _ (by kernel_rfl) rfl rfl (((((hq.set 0 _).set 1 _).set 2 _).set 3 _).set 4 _) Tryz.underlying36 rfl (by kernel_rfl) rfl ?_;exact⟨zeroC,by rw[HE.out];rfl,XB.out.step (((((Chg.setCell _ g6 0 _).trans (Chg.setCell _ g6 1 _)).trans (Chg.setCell _ g6 2 _)).trans (Chg.setCell _ g6 3 _)).trans (Chg.setCell _ g6 4 _)) (by omega),fun h=>(by rw[HE.out]at h;cases h),fun _=>rfl⟩
  ·have hlt:(i:Int)<(n:Int):=by omega
   obtain⟨⟨cs,r,x⟩,hc⟩:∃c,cs0[i]? =some c:=⟨_,List.getElem?_eq_getElem (by rw[←HN.out];exact hin)⟩;obtain⟨q,hqq⟩:∃q,qs[i]? =some q:=⟨_,List.getElem?_eq_getElem (by rw[←HNQ.out];exact hin)⟩;obtain⟨g,off,rfl,ay,ny,py,bby,a1y,n1y,c1y,a2y,n2y,c2y,hcell,hTL,hRX⟩:=HAT.out i _ hc;obtain⟨gq,offq,rfl,yb,y1,z1,p1,y2,z2,p2,hycell,hyR⟩:=HATQ.out i _ hqq
   simp only at hcell hTL hRX
   obtain⟨hd0,hd1,hd2,hd3,hd4⟩:=hcell wr E0;have HC:=Lib.hid hc;have HQ:=Lib.hid hqq;have HYC:=Lib.hid hycell;have HYR:=Lib.hid hyR;have HTL:=Lib.hid hTL;have HRX:=Lib.hid hRX;obtain⟨w5,hw5,e5,C5,s5⟩:=alloc1 wr #[.int .i64 cs,.slice ay ny py,.bool bby,.slice a1y n1y c1y,.slice a2y n2y c2y] 36;have hu0:=C5.cell 0;rw[hw5]at hu0;clear hc hqq hcell hycell hyR hTL hRX;go_wp2_with fail;rw[←hw5];refine(sensible_calls cs w5).mono ?_;rintro e w6 ⟨rfl,e6⟩;have e56:=e5.trans e6;have hs56:=e56.size;have C6:=C5.ext e6;clear C5 hu0 hd0 hd1 hd2 hd3 hd4
   have hwr6:wr.heap.size<w6.heap.size:=by have:=e6.size;omega
   clear hw5 e5 e6 s5;have X6:=E0.trans e56
   cases hsc:sens cs with
   |false=>
    have HE:=Lib.hid (combE_2 (cs:=cs0) (qs:=qs) (s:=s) (.inr (.inr ⟨_,List.mem_of_getElem? HC.out,hsc⟩)));have XB:=Lib.hid X6;clear hsc;have hq:=D.ext e56;have hq0:=hq.cell 0;have hqf0:=hq.free 0;have hq1:=hq.cell 1;have hqf1:=hq.free 1;have hq2:=hq.cell 2;have hqf2:=hq.free 2;have hq3:=hq.cell 3;have hqf3:=hq.free 3;have hq4:=hq.cell 4;have hqf4:=hq.free 4;go_wp2;refine ret_box2 6 7 36 g6 36 _ _ _ (by kernel_rfl) rfl rfl (((((hq.set 0 _).set 1 _).set 2 _).set 3 _).set 4 _) Tryz.underlying36 rfl (by kernel_rfl) rfl ?_;exact⟨zeroC,by rw[HE.out];rfl,XB.out.step (((((Chg.setCell _ g6 0 _).trans (Chg.setCell _ g6 1 _)).trans (Chg.setCell _ g6 2 _)).trans (Chg.setCell _ g6 3 _)).trans (Chg.setCell _ g6 4 _)) (by omega),fun h=>(by rw[HE.out]at h;cases h),fun _=>rfl⟩
   |true=>
   have HSN:Hid (∀c∈cs0.take (i+1),sens c.1=true):=Lib.hid fun c hc=>by
    rw[List.take_add_one,HC.out]at hc
    rcases List.mem_append.1 hc with h |h
    ·exact HSN0.out c h
    ·simp only[Option.toList,List.mem_singleton]at h;rw[h];exact hsc
   clear hsc;have hy0:=HYC.out w6 X6 0 _ rfl;have hy1:=HYC.out w6 X6 1 _ rfl;have hy2:=HYC.out w6 X6 2 _ rfl;rw[Nat.add_zero]at hy0;go_wp2_with fail;refine(rsign_calls _ q ky w6 (HYR.out.ext X6)).mono ?_;rintro e w7 ⟨rfl,e7⟩;have E7:=e56.trans e7;have C7:=C6.ext e7;have X7:=X6.trans e7;clear hy0 hy1 hy2 C6 X6;have hRS:=rulesN_succ (s:=s) HQ.out HC.out
   by_cases hqz:q=0
   ·subst hqz;rw[rule_zero,Bool.and_true]at hRS
    have HCD2:Hid (cd=codeN (rulesN s qs cs0 (i+1))):=Lib.hid (by rw[hRS];exact HCD.out)
    have HJ:Hid (CmJ w K R g6 g9 s qs cs0 (i+1) w7):=Lib.hid ((CmJ.ext ⟨E0,HG.out,D,a,n',p,b,a1,n1,c1,a2,n2,c2,S,HTO.out,HSR0.out,HRS.out⟩ E7).same (mkC_skip HQ.out HC.out) (rhsN_skip HQ.out HC.out));rw[sgn_zero];clear hRS D S C7;go_wp2;go_roundw
    case rel=>exact ⟨i+1,cd,by omega,congrArg (Value.int .i64) (by omega),rfl,HCD2,HSN,HJ⟩
    case measure=>simp [intOf];omega
   rw[rule_sign hqz]at hRS;obtain⟨z,hz⟩:∃z,z=q.num.sign:=⟨_,rfl⟩
   have hz0:z≠0:=by
    rw[hz]
    rcases rat_two hqz with h |h
    ·rw[sgn_neg h];decide
    ·rw[sgn_pos h];decide
   rw[←hz]at hRS ⊢
   have hzb:(z==0)=false:=by simpa using hz0
   clear hz;have hx0:=C7.cell 0;go_wp2_with fail;refine(sign_calls cs s w7).mono ?_;rintro e w8 ⟨rfl,e8⟩;have X8:=X7.trans e8;have S8:=(S.ext E7).ext e8;have D8:=(D.ext E7).ext e8;have C8:=C7.ext e8;have hs8:=(E7.trans e8).size;have hl9:=S8.lt;have hl6:=D8.lt
   have hwr8:wr.heap.size<w8.heap.size:=by have:=(e7.trans e8).size;omega
   have hne9:g9<wr.heap.size:=S.lt;have hne6:g6<wr.heap.size:=D.lt;have HSV:=Lib.hid ((HTO.out.ext E7).ext e8);have HSR:=Lib.hid ((HSR0.out.ext E7).ext e8);have HMK:=Lib.hid (mkC_step HQ.out HC.out);have HRH:=Lib.hid (rhsN_succ HQ.out HC.out)
   simp only at HMK HRH
   have hiM:i+1≤M:=by omega
   have hcl:=catN_len (ys:=qs) (rows:=termsC cs0) (N:=N) (fun r hr=>by
    unfold termsC at hr;obtain⟨c,hc,rfl⟩:=List.mem_map.1 hr
    exact HLN.out c hc) (i+1)
   have hcl0:=catN_len (ys:=qs) (rows:=termsC cs0) (N:=N) (fun r hr=>by
    unfold termsC at hr;obtain⟨c,hc,rfl⟩:=List.mem_map.1 hr
    exact HLN.out c hc) i
   have hm1:(i+1)*N≤M*N:=Nat.mul_le_mul_right _ hiM;have hm0:i*N≤M*N:=Nat.mul_le_mul_right _ (by omega)
   have htl:(termsC cs0).length=cs0.length:=by unfold termsC;rw[List.length_map]
   have hSZ:∀t∈mkV (catN qs (termsC cs0) (i+1)),szQ t.2≤K:=sz_le (catN_szs HSC.out.1 (fun r hr=>by
    unfold termsC at hr;obtain⟨c,hc,rfl⟩:=List.mem_map.1 hr
    exact(HSC.out.2 c hc).1) (by rw[←HNQ.out];omega) (by rw[htl,←HN.out];omega)) (Nat.le_trans hcl hm1) HKK.out.1
   have HSZ:=Lib.hid hSZ;have hRl:=HLN.out _ (List.mem_of_getElem? HC.out)
   simp only at hRl
   have hml:=mkV_len (catN qs (termsC cs0) i);have HAX:=Lib.hid (And.intro (show((mkV (catN qs (termsC cs0) i)).length+r.length+1)*(K+ky+k+1)≤34359738000 from Nat.le_trans (Nat.mul_le_mul_right _ (by omega)) HKK.out.2.2) (show(mkV (catN qs (termsC cs0) i)).length+r.length≤1073741824 by omega));have hrz:=rhsN_sz (qs:=qs) (cs:=cs0) HSC.out.1 (fun c hc=>(HSC.out.2 c hc).2) (i+1) (by rw[←HNQ.out];omega) (by rw[←HN.out];omega);have hmr:(i+1)*(ky+k+1)≤M*(ky+k+1):=Nat.mul_le_mul_right _ hiM;have HSZR:=Lib.hid (And.intro HRS.out (show szQ (rhsN qs cs0 (i+1))≤R by have:=HKK.out.2.1;omega))
   have hRk:R+(ky+k)≤68719476730:=by omega
   have HK2:=hKk;clear hrz hmr hcl hcl0 hm1 hm0 htl hSZ hRl hml hx0 C7 D S E7 e8 e7 e56 X7 HTO HSR0 HRS;obtain⟨wn,hwn⟩:∃wn,wn=signI cs s:=⟨_,rfl⟩;obtain⟨bo,hbo⟩:∃bo,bo=decide (cs=3):=⟨_,rfl⟩
   try simp only at hRS
   rw[←hwn,←hbo]at hRS ⊢;clear hwn hbo
   cases bo with
   |true=>
    have HCD2:Hid (cd=codeN (rulesN s qs cs0 (i+1))):=Lib.hid (by rw[hRS,Bool.true_or,Bool.and_true];exact HCD.out)
    clear hRS;go_wp2_with fail;refine wp_region_putg [⟨10,g9,SumT w8.heap.size K g9 s b a1 n1 c1 a2 n2 c2 (mkV (catN qs (termsC cs0) (i+1))),fun _ _ he h=>h.ext he,fun _ hne hg _ _ he h=>h.chg he hne hg⟩] [PP.val (.slice (some ⟨gq,offq,none⟩) n capq),PP.val (.int .i64 (i:Int)),PP.val (.pointer (some ⟨gq,offq+i*3,none⟩)),PP.val (.agg #[.bool yb,.slice y1 z1 p1,.slice y2 z2 p2]),PP.val (.pointer (some ⟨wr.heap.size,1,none⟩)),PP.val (.slice ay ny py),PP.val (.pointer (some ⟨g9,1,none⟩)),PP.val (.slice a n' p),PP.tO K (mkV (catN qs (termsC cs0) (i+1))),PP.val (.pointer (some ⟨g9,1,none⟩)),PP.any] [] [10,9,8,7,6,5,4,3,2,1,0]
     (by kernel_rfl) (by kernel_rfl) (fun f=>(by simp only[fillR,fillL,List.setIfInBounds_toArray,List.set_cons_succ,List.set_cons_zero,Nat.reduceAdd];rfl)) ?_ ?_ ?_ ?_ ?_
    ·intro x hx;simp only[List.mem_singleton]at hx;subst hx;show g9<w8.heap.size;omega
    ·intro x hx;simp only[List.mem_singleton]at hx;subst hx;rfl
    ·intro x hx y hy h;simp only[List.mem_singleton]at hx hy;subst hx hy;exact absurd rfl h
    ·refine⟨?_,?_,?_,?_,?_,?_,?_,?_,?_,?_,?_,trivial⟩
     ·intro f wa hG hp hl;simp only[OpGoal];go_simp;exact⟨_,rfl,Ext.refl _,rfl⟩
     ·intro f wa hG hp hl;simp only[OpGoal];go_simp;exact⟨_,rfl,Ext.refl _,rfl⟩
     ·intro f wa hG hp hl
      have q62:f 0= .slice (some ⟨gq,offq,none⟩) n capq:=tellG hp 0 0 rfl rfl (fun h=>by cases h)
      have q63:f 1= .int .i64 (i:Int):=tellG hp 1 1 rfl rfl (fun h=>by cases h)
      simp only[OpGoal];go_simp;exact⟨_,rfl,Ext.refl _,rfl⟩
     ·intro f wa hG hp hl;have hE:Ext w8 wa:=hG
      have q64:f 2= .pointer (some ⟨gq,offq+i*3,none⟩):=tellG hp 0 2 rfl rfl (fun h=>by cases h)
      change OpGoal _ _ _ f wa Ext _;exact og_loadAt (P:=Tryz.prog) _ _ gq (offq+i*3) _ _ rfl rfl q64 (fun j v h=>HYC.out _ (X8.trans hE) j v h) Tryz.underlying34 rfl (by kernel_rfl) rfl
     ·intro f wa hG hp hl;simp only[OpGoal];go_simp;exact⟨_,rfl,Ext.refl _,rfl⟩
     ·intro f wa hG hp hl;have hE:Ext w8 wa:=hG
      have q66:f 4= .pointer (some ⟨wr.heap.size,1,none⟩):=tellG hp 0 4 rfl rfl (fun h=>by cases h)
      have hcell:=(C8.ext hE).cell 1;simp only[OpGoal];go_simp;exact⟨_,rfl,Ext.refl _,rfl⟩
     ·intro f wa hG hp hl;simp only[OpGoal];go_simp;exact⟨_,rfl,Ext.refl _,rfl⟩
     ·intro f wa hG hp hl;have hE:Ext w8 wa:=hG
      have q68:f 6= .pointer (some ⟨g9,1,none⟩):=tellG hp 0 6 rfl rfl (fun h=>by cases h)
      have hcell:=(S8.ext hE).cell 1;simp only[OpGoal];go_simp;exact⟨_,rfl,Ext.refl _,rfl⟩
     ·intro f wa hG hp hl;have hE:Ext w8 wa:=hG;have hS:=hE.size
      have q65:f 3= .agg #[.bool yb,.slice y1 z1 p1,.slice y2 z2 p2]:=tellG hp 0 3 rfl rfl (fun h=>by cases h)
      have q67:f 5= .slice ay ny py:=tellG hp 1 5 rfl rfl (fun h=>by cases h)
      have q69:f 7= .slice a n' p:=tellG hp 2 7 rfl rfl (fun h=>by cases h)
      change OpGoal _ _ _ f wa Ext _;refine oC #[f 3,f 5,f 7] Tryz.func81 rfl rfl ?_;rw[q65,q67,q69];refine(vaxpy_calls ky k K (K+ky+k) _ _ _ q r (mkV (catN qs (termsC cs0) i)) _ (HYR.out.ext (X8.trans hE)) (HTL.out.ext (X8.trans hE)) ((HSV.out.ext hE).tl (by omega)) (by omega) (by omega) HAX.out.2 HAX.out.1).mono ?_;rintro e w' ⟨v',rfl,h1,h2⟩;rw[HMK.out]at h1;exact⟨v',rfl,h2,(h1.to HSZ.out).mono hS⟩
     ·intro f wa hG hp hl;simp only[OpGoal];go_simp;exact⟨_,rfl,Ext.refl _,rfl⟩
     ·intro f wa hG hp hl;have hE:Ext w8 wa:=hG;have hS:=hE.size
      have q71:f 9= .pointer (some ⟨g9,1,none⟩):=tellG hp 0 9 rfl rfl (fun h=>by cases h)
      have q70:=tellG hp 1 8 rfl rfl (fun _=>hE);intro hg0;change OpGoal _ _ _ f wa (Chg _) _;obtain⟨ad',cap',hv⟩:=TO.val q70;have hto:=q70;rw[hv]at hto;exact og_storeS (P:=Tryz.prog) g9 1 36 _ [.int .i64 s,.slice a n' p,.bool b,.slice a1 n1 c1,.slice a2 n2 c2] ad' _ cap' _ _ rfl rfl q71 hv (by kernel_rfl) (show Bx 36 wa _ _ from hg0.trans S8) (show 1<5 by decide) (fun w' hc hb u=>⟨ad',_,cap',hb,hto.chg hc (by omega)⟩)
    ·intro f w9 hG hp;have hz0:=endGS hp 10 (by decide);clear hp;have hC:Chg g9 w8 w9:=ChgS.one hG;obtain⟨a9,n9,p9,S9,ht9⟩:=hz0;have X9:=X8.step hC (by omega);have HT9:=Lib.hid (ht9.mono (show w.heap.size≤_ by omega));have D9:=D8.chg hC (by omega);have C9:=C8.chg hC (by omega);have HR9:=Lib.hid (FrQ.chgB HSR.out hC S8 (by decide));have hs9:=hC.size;clear ht9 hC hG D8 C8 S8;go_wp2_with fail;refine wp_region_putg [⟨11,g9,SumR w9.heap.size R g9 s a9 n9 p9 (rhsN qs cs0 (i+1)),fun _ _ he h=>h.ext he,fun _ hne hg _ _ he h=>h.chg he hne hg⟩] [PP.val (.pointer (some ⟨g9,2,none⟩)),PP.val (.agg #[.bool b,.slice a1 n1 c1,.slice a2 n2 c2]),PP.val (.slice (some ⟨gq,offq,none⟩) n capq),PP.val (.int .i64 (i:Int)),PP.val (.pointer (some ⟨gq,offq+i*3,none⟩)),PP.val (.agg #[.bool yb,.slice y1 z1 p1,.slice y2 z2 p2]),PP.val (.pointer (some ⟨wr.heap.size,2,none⟩)),PP.val (.agg #[.bool bby,.slice a1y n1y c1y,.slice a2y n2y c2y]),PP.frQS (q*x) (ky+k),PP.frQS (rhsN qs cs0 (i+1)) R,PP.val (.pointer (some ⟨g9,2,none⟩)),PP.any] [] [11,10,9,8,7,6,5,4,3,2,1,0]
      (by kernel_rfl) (by kernel_rfl) (fun f=>(by simp only[fillR,fillL,List.setIfInBounds_toArray,List.set_cons_succ,List.set_cons_zero,Nat.reduceAdd];rfl)) ?_ ?_ ?_ ?_ ?_
     ·intro x hx;simp only[List.mem_singleton]at hx;subst hx;show g9<w9.heap.size;omega
     ·intro x hx;simp only[List.mem_singleton]at hx;subst hx;rfl
     ·intro x hx y hy h;simp only[List.mem_singleton]at hx hy;subst hx hy;exact absurd rfl h
     ·refine⟨?_,?_,?_,?_,?_,?_,?_,?_,?_,?_,?_,?_,trivial⟩
      ·intro f wa hG hp hl;simp only[OpGoal];go_simp;exact⟨_,rfl,Ext.refl _,rfl⟩
      ·intro f wa hG hp hl;have hE:Ext w9 wa:=hG
       have q72:f 0= .pointer (some ⟨g9,2,none⟩):=tellG hp 0 0 rfl rfl (fun h=>by cases h)
       have hbx:=S9.ext hE;have hcell0:=hbx.cell 0;have hcell1:=hbx.cell 1;have hcell2:=hbx.cell 2;have hcell3:=hbx.cell 3;have hcell4:=hbx.cell 4;simp only[OpGoal];go_simp;exact⟨_,rfl,Ext.refl _,rfl⟩
      ·intro f wa hG hp hl;simp only[OpGoal];go_simp;exact⟨_,rfl,Ext.refl _,rfl⟩
      ·intro f wa hG hp hl;simp only[OpGoal];go_simp;exact⟨_,rfl,Ext.refl _,rfl⟩
      ·intro f wa hG hp hl
       have q74:f 2= .slice (some ⟨gq,offq,none⟩) n capq:=tellG hp 0 2 rfl rfl (fun h=>by cases h)
       have q75:f 3= .int .i64 (i:Int):=tellG hp 1 3 rfl rfl (fun h=>by cases h)
       simp only[OpGoal];go_simp;exact⟨_,rfl,Ext.refl _,rfl⟩
      ·intro f wa hG hp hl;have hE:Ext w9 wa:=hG
       have q76:f 4= .pointer (some ⟨gq,offq+i*3,none⟩):=tellG hp 0 4 rfl rfl (fun h=>by cases h)
       change OpGoal _ _ _ f wa Ext _;exact og_loadAt (P:=Tryz.prog) _ _ gq (offq+i*3) _ _ rfl rfl q76 (fun j v h=>HYC.out _ (X9.trans hE) j v h) Tryz.underlying34 rfl (by kernel_rfl) rfl
      ·intro f wa hG hp hl;simp only[OpGoal];go_simp;exact⟨_,rfl,Ext.refl _,rfl⟩
      ·intro f wa hG hp hl;have hE:Ext w9 wa:=hG
       have q78:f 6= .pointer (some ⟨wr.heap.size,2,none⟩):=tellG hp 0 6 rfl rfl (fun h=>by cases h)
       have hbx:=C9.ext hE;have hcell0:=hbx.cell 0;have hcell1:=hbx.cell 1;have hcell2:=hbx.cell 2;have hcell3:=hbx.cell 3;have hcell4:=hbx.cell 4;simp only[OpGoal];go_simp;exact⟨_,rfl,Ext.refl _,rfl⟩
      ·intro f wa hG hp hl;have hE:Ext w9 wa:=hG;have hS:=hE.size
       have q77:f 5= .agg #[.bool yb,.slice y1 z1 p1,.slice y2 z2 p2]:=tellG hp 0 5 rfl rfl (fun h=>by cases h)
       have q79:f 7= .agg #[.bool bby,.slice a1y n1y c1y,.slice a2y n2y c2y]:=tellG hp 1 7 rfl rfl (fun h=>by cases h)
       change OpGoal _ _ _ f wa Ext _;refine oC #[f 5,f 7] Tryz.func83 rfl rfl ?_;rw[q77,q79];refine(rmul_calls _ _ q x ky k _ (HYR.out.ext (X9.trans hE)) (HRX.out.ext (X9.trans hE)) (by omega)).mono ?_;rintro e w' ⟨v',rfl,h1,h3,h2⟩;exact⟨v',rfl,h2,h1.mono hS,h3⟩
      ·intro f wa hG hp hl;have hE:Ext w9 wa:=hG;have hS:=hE.size
       have q73:f 1= .agg #[.bool b,.slice a1 n1 c1,.slice a2 n2 c2]:=tellG hp 0 1 rfl rfl (fun h=>by cases h)
       have q80:=tellG hp 1 8 rfl rfl (fun _=>hE);change OpGoal _ _ _ f wa Ext _;refine oC #[f 1,f 8] Tryz.func82 rfl rfl ?_;rw[q73];refine(radd_calls _ _ (rhsN qs cs0 i) (q*x) R (ky+k) _ ((HR9.out.ext hE).isR HSZR.out.1 (by omega)) (q80.1.isR q80.2 (by omega)) (by omega)).mono ?_;rintro e w' ⟨v',rfl,h1,h3,h2⟩;rw[←HRH.out]at h1;exact⟨v',rfl,h2,h1.mono hS,HSZR.out.2⟩
      ·intro f wa hG hp hl;simp only[OpGoal];go_simp;exact⟨_,rfl,Ext.refl _,rfl⟩
      ·intro f wa hG hp hl;have hE:Ext w9 wa:=hG;have hS:=hE.size
       have q82:f 10= .pointer (some ⟨g9,2,none⟩):=tellG hp 0 10 rfl rfl (fun h=>by cases h)
       have q81:=tellG hp 1 9 rfl rfl (fun _=>hE);intro hg0;change OpGoal _ _ _ f wa (Chg _) _;obtain⟨b',ad1,m1,e1,ad2,m2,e2,hv,hfq⟩:=FrQ.opn q81.1;have hsz:=q81.2;exact og_storeAt (P:=Tryz.prog) g9 2 36 _ [.int .i64 s,.slice a9 n9 p9,.bool b,.slice a1 n1 c1,.slice a2 n2 c2] #[.bool b',.slice ad1 m1 e1,.slice ad2 m2 e2] _ _ rfl rfl q82 hv (by kernel_rfl) (show Bx 36 wa _ _ from hg0.trans S9) (show 2+3≤5 by decide) (all3 rfl rfl rfl) (fun w' hc hb u=>⟨b',ad1,m1,e1,ad2,m2,e2,hb,hfq.chg hc (by omega),hsz⟩)
     ·intro f w10 hG hp;have hz0:=endGS hp 11 (by decide);clear hp;have hC:Chg g9 w9 w10:=ChgS.one hG;obtain⟨b',ad1,m1,e1,ad2,m2,e2,S10,hr10,hrs⟩:=hz0;have X10:=X9.step hC (by omega);have HJ:Hid (CmJ w K R g6 g9 s qs cs0 (i+1) w10):=Lib.hid ⟨X10,HG.out,D9.chg hC (by omega),a9,n9,p9,b',ad1,m1,e1,ad2,m2,e2,S10,TO.chgB HT9.out hC S9 (by decide) (by decide),hr10.mono (by omega),hrs⟩;clear hC hG S9 C9 D9 S10 hr10 hrs HR9 HT9 X9 X8 X10;go_wp2;go_roundw
      case rel=>exact ⟨i+1,cd,by omega,congrArg (Value.int .i64) (by omega),rfl,HCD2,HSN,HJ⟩
      case measure=>simp [intOf];omega
   |false=>
    by_cases hwz:wn=z
    ·subst hwz
     have HCD2:Hid (cd=codeN (rulesN s qs cs0 (i+1))):=Lib.hid (by rw[hRS,decide_eq_true (rfl:wn=wn),Bool.or_true,Bool.and_true];exact HCD.out)
     clear hRS
     have hwf:(wn !=wn)=false:=by simp
     go_wp2_with fail;refine wp_region_putg [⟨10,g9,SumT w8.heap.size K g9 s b a1 n1 c1 a2 n2 c2 (mkV (catN qs (termsC cs0) (i+1))),fun _ _ he h=>h.ext he,fun _ hne hg _ _ he h=>h.chg he hne hg⟩] [PP.val (.slice (some ⟨gq,offq,none⟩) n capq),PP.val (.int .i64 (i:Int)),PP.val (.pointer (some ⟨gq,offq+i*3,none⟩)),PP.val (.agg #[.bool yb,.slice y1 z1 p1,.slice y2 z2 p2]),PP.val (.pointer (some ⟨wr.heap.size,1,none⟩)),PP.val (.slice ay ny py),PP.val (.pointer (some ⟨g9,1,none⟩)),PP.val (.slice a n' p),PP.tO K (mkV (catN qs (termsC cs0) (i+1))),PP.val (.pointer (some ⟨g9,1,none⟩)),PP.any] [] [10,9,8,7,6,5,4,3,2,1,0]
      (by kernel_rfl) (by kernel_rfl) (fun f=>(by simp only[fillR,fillL,List.setIfInBounds_toArray,List.set_cons_succ,List.set_cons_zero,Nat.reduceAdd];rfl)) ?_ ?_ ?_ ?_ ?_
     ·intro x hx;simp only[List.mem_singleton]at hx;subst hx;show g9<w8.heap.size;omega
     ·intro x hx;simp only[List.mem_singleton]at hx;subst hx;rfl
     ·intro x hx y hy h;simp only[List.mem_singleton]at hx hy;subst hx hy;exact absurd rfl h
     ·refine⟨?_,?_,?_,?_,?_,?_,?_,?_,?_,?_,?_,trivial⟩
      ·intro f wa hG hp hl;simp only[OpGoal];go_simp;exact⟨_,rfl,Ext.refl _,rfl⟩
      ·intro f wa hG hp hl;simp only[OpGoal];go_simp;exact⟨_,rfl,Ext.refl _,rfl⟩
      ·intro f wa hG hp hl
       have q62:f 0= .slice (some ⟨gq,offq,none⟩) n capq:=tellG hp 0 0 rfl rfl (fun h=>by cases h)
       have q63:f 1= .int .i64 (i:Int):=tellG hp 1 1 rfl rfl (fun h=>by cases h)
       simp only[OpGoal];go_simp;exact⟨_,rfl,Ext.refl _,rfl⟩
      ·intro f wa hG hp hl;have hE:Ext w8 wa:=hG
       have q64:f 2= .pointer (some ⟨gq,offq+i*3,none⟩):=tellG hp 0 2 rfl rfl (fun h=>by cases h)
       change OpGoal _ _ _ f wa Ext _;exact og_loadAt (P:=Tryz.prog) _ _ gq (offq+i*3) _ _ rfl rfl q64 (fun j v h=>HYC.out _ (X8.trans hE) j v h) Tryz.underlying34 rfl (by kernel_rfl) rfl
      ·intro f wa hG hp hl;simp only[OpGoal];go_simp;exact⟨_,rfl,Ext.refl _,rfl⟩
      ·intro f wa hG hp hl;have hE:Ext w8 wa:=hG
       have q66:f 4= .pointer (some ⟨wr.heap.size,1,none⟩):=tellG hp 0 4 rfl rfl (fun h=>by cases h)
       have hcell:=(C8.ext hE).cell 1;simp only[OpGoal];go_simp;exact⟨_,rfl,Ext.refl _,rfl⟩
      ·intro f wa hG hp hl;simp only[OpGoal];go_simp;exact⟨_,rfl,Ext.refl _,rfl⟩
      ·intro f wa hG hp hl;have hE:Ext w8 wa:=hG
       have q68:f 6= .pointer (some ⟨g9,1,none⟩):=tellG hp 0 6 rfl rfl (fun h=>by cases h)
       have hcell:=(S8.ext hE).cell 1;simp only[OpGoal];go_simp;exact⟨_,rfl,Ext.refl _,rfl⟩
      ·intro f wa hG hp hl;have hE:Ext w8 wa:=hG;have hS:=hE.size
       have q65:f 3= .agg #[.bool yb,.slice y1 z1 p1,.slice y2 z2 p2]:=tellG hp 0 3 rfl rfl (fun h=>by cases h)
       have q67:f 5= .slice ay ny py:=tellG hp 1 5 rfl rfl (fun h=>by cases h)
       have q69:f 7= .slice a n' p:=tellG hp 2 7 rfl rfl (fun h=>by cases h)
       change OpGoal _ _ _ f wa Ext _;refine oC #[f 3,f 5,f 7] Tryz.func81 rfl rfl ?_;rw[q65,q67,q69];refine(vaxpy_calls ky k K (K+ky+k) _ _ _ q r (mkV (catN qs (termsC cs0) i)) _ (HYR.out.ext (X8.trans hE)) (HTL.out.ext (X8.trans hE)) ((HSV.out.ext hE).tl (by omega)) (by omega) (by omega) HAX.out.2 HAX.out.1).mono ?_;rintro e w' ⟨v',rfl,h1,h2⟩;rw[HMK.out]at h1;exact⟨v',rfl,h2,(h1.to HSZ.out).mono hS⟩
      ·intro f wa hG hp hl;simp only[OpGoal];go_simp;exact⟨_,rfl,Ext.refl _,rfl⟩
      ·intro f wa hG hp hl;have hE:Ext w8 wa:=hG;have hS:=hE.size
       have q71:f 9= .pointer (some ⟨g9,1,none⟩):=tellG hp 0 9 rfl rfl (fun h=>by cases h)
       have q70:=tellG hp 1 8 rfl rfl (fun _=>hE);intro hg0;change OpGoal _ _ _ f wa (Chg _) _;obtain⟨ad',cap',hv⟩:=TO.val q70;have hto:=q70;rw[hv]at hto;exact og_storeS (P:=Tryz.prog) g9 1 36 _ [.int .i64 s,.slice a n' p,.bool b,.slice a1 n1 c1,.slice a2 n2 c2] ad' _ cap' _ _ rfl rfl q71 hv (by kernel_rfl) (show Bx 36 wa _ _ from hg0.trans S8) (show 1<5 by decide) (fun w' hc hb u=>⟨ad',_,cap',hb,hto.chg hc (by omega)⟩)
     ·intro f w9 hG hp;have hz0:=endGS hp 10 (by decide);clear hp;have hC:Chg g9 w8 w9:=ChgS.one hG;obtain⟨a9,n9,p9,S9,ht9⟩:=hz0;have X9:=X8.step hC (by omega);have HT9:=Lib.hid (ht9.mono (show w.heap.size≤_ by omega));have D9:=D8.chg hC (by omega);have C9:=C8.chg hC (by omega);have HR9:=Lib.hid (FrQ.chgB HSR.out hC S8 (by decide));have hs9:=hC.size;clear ht9 hC hG D8 C8 S8;go_wp2_with fail;refine wp_region_putg [⟨11,g9,SumR w9.heap.size R g9 s a9 n9 p9 (rhsN qs cs0 (i+1)),fun _ _ he h=>h.ext he,fun _ hne hg _ _ he h=>h.chg he hne hg⟩] [PP.val (.pointer (some ⟨g9,2,none⟩)),PP.val (.agg #[.bool b,.slice a1 n1 c1,.slice a2 n2 c2]),PP.val (.slice (some ⟨gq,offq,none⟩) n capq),PP.val (.int .i64 (i:Int)),PP.val (.pointer (some ⟨gq,offq+i*3,none⟩)),PP.val (.agg #[.bool yb,.slice y1 z1 p1,.slice y2 z2 p2]),PP.val (.pointer (some ⟨wr.heap.size,2,none⟩)),PP.val (.agg #[.bool bby,.slice a1y n1y c1y,.slice a2y n2y c2y]),PP.frQS (q*x) (ky+k),PP.frQS (rhsN qs cs0 (i+1)) R,PP.val (.pointer (some ⟨g9,2,none⟩)),PP.any] [] [11,10,9,8,7,6,5,4,3,2,1,0]
       (by kernel_rfl) (by kernel_rfl) (fun f=>(by simp only[fillR,fillL,List.setIfInBounds_toArray,List.set_cons_succ,List.set_cons_zero,Nat.reduceAdd];rfl)) ?_ ?_ ?_ ?_ ?_
      ·intro x hx;simp only[List.mem_singleton]at hx;subst hx;show g9<w9.heap.size;omega
      ·intro x hx;simp only[List.mem_singleton]at hx;subst hx;rfl
      ·intro x hx y hy h;simp only[List.mem_singleton]at hx hy;subst hx hy;exact absurd rfl h
      ·refine⟨?_,?_,?_,?_,?_,?_,?_,?_,?_,?_,?_,?_,trivial⟩
       ·intro f wa hG hp hl;simp only[OpGoal];go_simp;exact⟨_,rfl,Ext.refl _,rfl⟩
       ·intro f wa hG hp hl;have hE:Ext w9 wa:=hG
        have q72:f 0= .pointer (some ⟨g9,2,none⟩):=tellG hp 0 0 rfl rfl (fun h=>by cases h)
        have hbx:=S9.ext hE;have hcell0:=hbx.cell 0;have hcell1:=hbx.cell 1;have hcell2:=hbx.cell 2;have hcell3:=hbx.cell 3;have hcell4:=hbx.cell 4;simp only[OpGoal];go_simp;exact⟨_,rfl,Ext.refl _,rfl⟩
       ·intro f wa hG hp hl;simp only[OpGoal];go_simp;exact⟨_,rfl,Ext.refl _,rfl⟩
       ·intro f wa hG hp hl;simp only[OpGoal];go_simp;exact⟨_,rfl,Ext.refl _,rfl⟩
       ·intro f wa hG hp hl
        have q74:f 2= .slice (some ⟨gq,offq,none⟩) n capq:=tellG hp 0 2 rfl rfl (fun h=>by cases h)
        have q75:f 3= .int .i64 (i:Int):=tellG hp 1 3 rfl rfl (fun h=>by cases h)
        simp only[OpGoal];go_simp;exact⟨_,rfl,Ext.refl _,rfl⟩
       ·intro f wa hG hp hl;have hE:Ext w9 wa:=hG
        have q76:f 4= .pointer (some ⟨gq,offq+i*3,none⟩):=tellG hp 0 4 rfl rfl (fun h=>by cases h)
        change OpGoal _ _ _ f wa Ext _;exact og_loadAt (P:=Tryz.prog) _ _ gq (offq+i*3) _ _ rfl rfl q76 (fun j v h=>HYC.out _ (X9.trans hE) j v h) Tryz.underlying34 rfl (by kernel_rfl) rfl
       ·intro f wa hG hp hl;simp only[OpGoal];go_simp;exact⟨_,rfl,Ext.refl _,rfl⟩
       ·intro f wa hG hp hl;have hE:Ext w9 wa:=hG
        have q78:f 6= .pointer (some ⟨wr.heap.size,2,none⟩):=tellG hp 0 6 rfl rfl (fun h=>by cases h)
        have hbx:=C9.ext hE;have hcell0:=hbx.cell 0;have hcell1:=hbx.cell 1;have hcell2:=hbx.cell 2;have hcell3:=hbx.cell 3;have hcell4:=hbx.cell 4;simp only[OpGoal];go_simp;exact⟨_,rfl,Ext.refl _,rfl⟩
       ·intro f wa hG hp hl;have hE:Ext w9 wa:=hG;have hS:=hE.size
        have q77:f 5= .agg #[.bool yb,.slice y1 z1 p1,.slice y2 z2 p2]:=tellG hp 0 5 rfl rfl (fun h=>by cases h)
        have q79:f 7= .agg #[.bool bby,.slice a1y n1y c1y,.slice a2y n2y c2y]:=tellG hp 1 7 rfl rfl (fun h=>by cases h)
        change OpGoal _ _ _ f wa Ext _;refine oC #[f 5,f 7] Tryz.func83 rfl rfl ?_;rw[q77,q79];refine(rmul_calls _ _ q x ky k _ (HYR.out.ext (X9.trans hE)) (HRX.out.ext (X9.trans hE)) (by omega)).mono ?_;rintro e w' ⟨v',rfl,h1,h3,h2⟩;exact⟨v',rfl,h2,h1.mono hS,h3⟩
       ·intro f wa hG hp hl;have hE:Ext w9 wa:=hG;have hS:=hE.size
        have q73:f 1= .agg #[.bool b,.slice a1 n1 c1,.slice a2 n2 c2]:=tellG hp 0 1 rfl rfl (fun h=>by cases h)
        have q80:=tellG hp 1 8 rfl rfl (fun _=>hE);change OpGoal _ _ _ f wa Ext _;refine oC #[f 1,f 8] Tryz.func82 rfl rfl ?_;rw[q73];refine(radd_calls _ _ (rhsN qs cs0 i) (q*x) R (ky+k) _ ((HR9.out.ext hE).isR HSZR.out.1 (by omega)) (q80.1.isR q80.2 (by omega)) (by omega)).mono ?_;rintro e w' ⟨v',rfl,h1,h3,h2⟩;rw[←HRH.out]at h1;exact⟨v',rfl,h2,h1.mono hS,HSZR.out.2⟩
       ·intro f wa hG hp hl;simp only[OpGoal];go_simp;exact⟨_,rfl,Ext.refl _,rfl⟩
       ·intro f wa hG hp hl;have hE:Ext w9 wa:=hG;have hS:=hE.size
        have q82:f 10= .pointer (some ⟨g9,2,none⟩):=tellG hp 0 10 rfl rfl (fun h=>by cases h)
        have q81:=tellG hp 1 9 rfl rfl (fun _=>hE);intro hg0;change OpGoal _ _ _ f wa (Chg _) _;obtain⟨b',ad1,m1,e1,ad2,m2,e2,hv,hfq⟩:=FrQ.opn q81.1;have hsz:=q81.2;exact og_storeAt (P:=Tryz.prog) g9 2 36 _ [.int .i64 s,.slice a9 n9 p9,.bool b,.slice a1 n1 c1,.slice a2 n2 c2] #[.bool b',.slice ad1 m1 e1,.slice ad2 m2 e2] _ _ rfl rfl q82 hv (by kernel_rfl) (show Bx 36 wa _ _ from hg0.trans S9) (show 2+3≤5 by decide) (all3 rfl rfl rfl) (fun w' hc hb u=>⟨b',ad1,m1,e1,ad2,m2,e2,hb,hfq.chg hc (by omega),hsz⟩)
      ·intro f w10 hG hp;have hz0:=endGS hp 11 (by decide);clear hp;have hC:Chg g9 w9 w10:=ChgS.one hG;obtain⟨b',ad1,m1,e1,ad2,m2,e2,S10,hr10,hrs⟩:=hz0;have X10:=X9.step hC (by omega);have HJ:Hid (CmJ w K R g6 g9 s qs cs0 (i+1) w10):=Lib.hid ⟨X10,HG.out,D9.chg hC (by omega),a9,n9,p9,b',ad1,m1,e1,ad2,m2,e2,S10,TO.chgB HT9.out hC S9 (by decide) (by decide),hr10.mono (by omega),hrs⟩;clear hC hG S9 C9 D9 S10 hr10 hrs HR9 HT9 X9 X8 X10;go_wp2;go_roundw
       case rel=>exact ⟨i+1,cd,by omega,congrArg (Value.int .i64) (by omega),rfl,HCD2,HSN,HJ⟩
       case measure=>simp [intOf];omega
    ·have HCD2:Hid ((241:Int)=codeN (rulesN s qs cs0 (i+1))):=Lib.hid (by rw[hRS,decide_eq_false hwz,Bool.or_false,Bool.and_false];rfl)
     clear hRS
     have hwf:(wn !=z)=true:=by rw[bne_iff_ne];exact hwz
     go_wp2_with fail;refine wp_region_putg [⟨10,g9,SumT w8.heap.size K g9 s b a1 n1 c1 a2 n2 c2 (mkV (catN qs (termsC cs0) (i+1))),fun _ _ he h=>h.ext he,fun _ hne hg _ _ he h=>h.chg he hne hg⟩] [PP.val (.slice (some ⟨gq,offq,none⟩) n capq),PP.val (.int .i64 (i:Int)),PP.val (.pointer (some ⟨gq,offq+i*3,none⟩)),PP.val (.agg #[.bool yb,.slice y1 z1 p1,.slice y2 z2 p2]),PP.val (.pointer (some ⟨wr.heap.size,1,none⟩)),PP.val (.slice ay ny py),PP.val (.pointer (some ⟨g9,1,none⟩)),PP.val (.slice a n' p),PP.tO K (mkV (catN qs (termsC cs0) (i+1))),PP.val (.pointer (some ⟨g9,1,none⟩)),PP.any] [] [10,9,8,7,6,5,4,3,2,1,0]
      (by kernel_rfl) (by kernel_rfl) (fun f=>(by simp only[fillR,fillL,List.setIfInBounds_toArray,List.set_cons_succ,List.set_cons_zero,Nat.reduceAdd];rfl)) ?_ ?_ ?_ ?_ ?_
     ·intro x hx;simp only[List.mem_singleton]at hx;subst hx;show g9<w8.heap.size;omega
     ·intro x hx;simp only[List.mem_singleton]at hx;subst hx;rfl
     ·intro x hx y hy h;simp only[List.mem_singleton]at hx hy;subst hx hy;exact absurd rfl h
     ·refine⟨?_,?_,?_,?_,?_,?_,?_,?_,?_,?_,?_,trivial⟩
      ·intro f wa hG hp hl;simp only[OpGoal];go_simp;exact⟨_,rfl,Ext.refl _,rfl⟩
      ·intro f wa hG hp hl;simp only[OpGoal];go_simp;exact⟨_,rfl,Ext.refl _,rfl⟩
      ·intro f wa hG hp hl
       have q62:f 0= .slice (some ⟨gq,offq,none⟩) n capq:=tellG hp 0 0 rfl rfl (fun h=>by cases h)
       have q63:f 1= .int .i64 (i:Int):=tellG hp 1 1 rfl rfl (fun h=>by cases h)
       simp only[OpGoal];go_simp;exact⟨_,rfl,Ext.refl _,rfl⟩
      ·intro f wa hG hp hl;have hE:Ext w8 wa:=hG
       have q64:f 2= .pointer (some ⟨gq,offq+i*3,none⟩):=tellG hp 0 2 rfl rfl (fun h=>by cases h)
       change OpGoal _ _ _ f wa Ext _;exact og_loadAt (P:=Tryz.prog) _ _ gq (offq+i*3) _ _ rfl rfl q64 (fun j v h=>HYC.out _ (X8.trans hE) j v h) Tryz.underlying34 rfl (by kernel_rfl) rfl
      ·intro f wa hG hp hl;simp only[OpGoal];go_simp;exact⟨_,rfl,Ext.refl _,rfl⟩
      ·intro f wa hG hp hl;have hE:Ext w8 wa:=hG
       have q66:f 4= .pointer (some ⟨wr.heap.size,1,none⟩):=tellG hp 0 4 rfl rfl (fun h=>by cases h)
       have hcell:=(C8.ext hE).cell 1;simp only[OpGoal];go_simp;exact⟨_,rfl,Ext.refl _,rfl⟩
      ·intro f wa hG hp hl;simp only[OpGoal];go_simp;exact⟨_,rfl,Ext.refl _,rfl⟩
      ·intro f wa hG hp hl;have hE:Ext w8 wa:=hG
       have q68:f 6= .pointer (some ⟨g9,1,none⟩):=tellG hp 0 6 rfl rfl (fun h=>by cases h)
       have hcell:=(S8.ext hE).cell 1;simp only[OpGoal];go_simp;exact⟨_,rfl,Ext.refl _,rfl⟩
      ·intro f wa hG hp hl;have hE:Ext w8 wa:=hG;have hS:=hE.size
       have q65:f 3= .agg #[.bool yb,.slice y1 z1 p1,.slice y2 z2 p2]:=tellG hp 0 3 rfl rfl (fun h=>by cases h)
       have q67:f 5= .slice ay ny py:=tellG hp 1 5 rfl rfl (fun h=>by cases h)
       have q69:f 7= .slice a n' p:=tellG hp 2 7 rfl rfl (fun h=>by cases h)
       change OpGoal _ _ _ f wa Ext _;refine oC #[f 3,f 5,f 7] Tryz.func81 rfl rfl ?_;rw[q65,q67,q69];refine(vaxpy_calls ky k K (K+ky+k) _ _ _ q r (mkV (catN qs (termsC cs0) i)) _ (HYR.out.ext (X8.trans hE)) (HTL.out.ext (X8.trans hE)) ((HSV.out.ext hE).tl (by omega)) (by omega) (by omega) HAX.out.2 HAX.out.1).mono ?_;rintro e w' ⟨v',rfl,h1,h2⟩;rw[HMK.out]at h1;exact⟨v',rfl,h2,(h1.to HSZ.out).mono hS⟩
      ·intro f wa hG hp hl;simp only[OpGoal];go_simp;exact⟨_,rfl,Ext.refl _,rfl⟩
      ·intro f wa hG hp hl;have hE:Ext w8 wa:=hG;have hS:=hE.size
       have q71:f 9= .pointer (some ⟨g9,1,none⟩):=tellG hp 0 9 rfl rfl (fun h=>by cases h)
       have q70:=tellG hp 1 8 rfl rfl (fun _=>hE);intro hg0;change OpGoal _ _ _ f wa (Chg _) _;obtain⟨ad',cap',hv⟩:=TO.val q70;have hto:=q70;rw[hv]at hto;exact og_storeS (P:=Tryz.prog) g9 1 36 _ [.int .i64 s,.slice a n' p,.bool b,.slice a1 n1 c1,.slice a2 n2 c2] ad' _ cap' _ _ rfl rfl q71 hv (by kernel_rfl) (show Bx 36 wa _ _ from hg0.trans S8) (show 1<5 by decide) (fun w' hc hb u=>⟨ad',_,cap',hb,hto.chg hc (by omega)⟩)
     ·intro f w9 hG hp;have hz0:=endGS hp 10 (by decide);clear hp;have hC:Chg g9 w8 w9:=ChgS.one hG;obtain⟨a9,n9,p9,S9,ht9⟩:=hz0;have X9:=X8.step hC (by omega);have HT9:=Lib.hid (ht9.mono (show w.heap.size≤_ by omega));have D9:=D8.chg hC (by omega);have C9:=C8.chg hC (by omega);have HR9:=Lib.hid (FrQ.chgB HSR.out hC S8 (by decide));have hs9:=hC.size;clear ht9 hC hG D8 C8 S8;go_wp2_with fail;refine wp_region_putg [⟨11,g9,SumR w9.heap.size R g9 s a9 n9 p9 (rhsN qs cs0 (i+1)),fun _ _ he h=>h.ext he,fun _ hne hg _ _ he h=>h.chg he hne hg⟩] [PP.val (.pointer (some ⟨g9,2,none⟩)),PP.val (.agg #[.bool b,.slice a1 n1 c1,.slice a2 n2 c2]),PP.val (.slice (some ⟨gq,offq,none⟩) n capq),PP.val (.int .i64 (i:Int)),PP.val (.pointer (some ⟨gq,offq+i*3,none⟩)),PP.val (.agg #[.bool yb,.slice y1 z1 p1,.slice y2 z2 p2]),PP.val (.pointer (some ⟨wr.heap.size,2,none⟩)),PP.val (.agg #[.bool bby,.slice a1y n1y c1y,.slice a2y n2y c2y]),PP.frQS (q*x) (ky+k),PP.frQS (rhsN qs cs0 (i+1)) R,PP.val (.pointer (some ⟨g9,2,none⟩)),PP.any] [] [11,10,9,8,7,6,5,4,3,2,1,0]
       (by kernel_rfl) (by kernel_rfl) (fun f=>(by simp only[fillR,fillL,List.setIfInBounds_toArray,List.set_cons_succ,List.set_cons_zero,Nat.reduceAdd];rfl)) ?_ ?_ ?_ ?_ ?_
      ·intro x hx;simp only[List.mem_singleton]at hx;subst hx;show g9<w9.heap.size;omega
      ·intro x hx;simp only[List.mem_singleton]at hx;subst hx;rfl
      ·intro x hx y hy h;simp only[List.mem_singleton]at hx hy;subst hx hy;exact absurd rfl h
      ·refine⟨?_,?_,?_,?_,?_,?_,?_,?_,?_,?_,?_,?_,trivial⟩
       ·intro f wa hG hp hl;simp only[OpGoal];go_simp;exact⟨_,rfl,Ext.refl _,rfl⟩
       ·intro f wa hG hp hl;have hE:Ext w9 wa:=hG
        have q72:f 0= .pointer (some ⟨g9,2,none⟩):=tellG hp 0 0 rfl rfl (fun h=>by cases h)
        have hbx:=S9.ext hE;have hcell0:=hbx.cell 0;have hcell1:=hbx.cell 1;have hcell2:=hbx.cell 2;have hcell3:=hbx.cell 3;have hcell4:=hbx.cell 4;simp only[OpGoal];go_simp;exact⟨_,rfl,Ext.refl _,rfl⟩
       ·intro f wa hG hp hl;simp only[OpGoal];go_simp;exact⟨_,rfl,Ext.refl _,rfl⟩
       ·intro f wa hG hp hl;simp only[OpGoal];go_simp;exact⟨_,rfl,Ext.refl _,rfl⟩
       ·intro f wa hG hp hl
        have q74:f 2= .slice (some ⟨gq,offq,none⟩) n capq:=tellG hp 0 2 rfl rfl (fun h=>by cases h)
        have q75:f 3= .int .i64 (i:Int):=tellG hp 1 3 rfl rfl (fun h=>by cases h)
        simp only[OpGoal];go_simp;exact⟨_,rfl,Ext.refl _,rfl⟩
       ·intro f wa hG hp hl;have hE:Ext w9 wa:=hG
        have q76:f 4= .pointer (some ⟨gq,offq+i*3,none⟩):=tellG hp 0 4 rfl rfl (fun h=>by cases h)
        change OpGoal _ _ _ f wa Ext _;exact og_loadAt (P:=Tryz.prog) _ _ gq (offq+i*3) _ _ rfl rfl q76 (fun j v h=>HYC.out _ (X9.trans hE) j v h) Tryz.underlying34 rfl (by kernel_rfl) rfl
       ·intro f wa hG hp hl;simp only[OpGoal];go_simp;exact⟨_,rfl,Ext.refl _,rfl⟩
       ·intro f wa hG hp hl;have hE:Ext w9 wa:=hG
        have q78:f 6= .pointer (some ⟨wr.heap.size,2,none⟩):=tellG hp 0 6 rfl rfl (fun h=>by cases h)
        have hbx:=C9.ext hE;have hcell0:=hbx.cell 0;have hcell1:=hbx.cell 1;have hcell2:=hbx.cell 2;have hcell3:=hbx.cell 3;have hcell4:=hbx.cell 4;simp only[OpGoal];go_simp;exact⟨_,rfl,Ext.refl _,rfl⟩
       ·intro f wa hG hp hl;have hE:Ext w9 wa:=hG;have hS:=hE.size
        have q77:f 5= .agg #[.bool yb,.slice y1 z1 p1,.slice y2 z2 p2]:=tellG hp 0 5 rfl rfl (fun h=>by cases h)
        have q79:f 7= .agg #[.bool bby,.slice a1y n1y c1y,.slice a2y n2y c2y]:=tellG hp 1 7 rfl rfl (fun h=>by cases h)
        change OpGoal _ _ _ f wa Ext _;refine oC #[f 5,f 7] Tryz.func83 rfl rfl ?_;rw[q77,q79];refine(rmul_calls _ _ q x ky k _ (HYR.out.ext (X9.trans hE)) (HRX.out.ext (X9.trans hE)) (by omega)).mono ?_;rintro e w' ⟨v',rfl,h1,h3,h2⟩;exact⟨v',rfl,h2,h1.mono hS,h3⟩
       ·intro f wa hG hp hl;have hE:Ext w9 wa:=hG;have hS:=hE.size
        have q73:f 1= .agg #[.bool b,.slice a1 n1 c1,.slice a2 n2 c2]:=tellG hp 0 1 rfl rfl (fun h=>by cases h)
        have q80:=tellG hp 1 8 rfl rfl (fun _=>hE);change OpGoal _ _ _ f wa Ext _;refine oC #[f 1,f 8] Tryz.func82 rfl rfl ?_;rw[q73];refine(radd_calls _ _ (rhsN qs cs0 i) (q*x) R (ky+k) _ ((HR9.out.ext hE).isR HSZR.out.1 (by omega)) (q80.1.isR q80.2 (by omega)) (by omega)).mono ?_;rintro e w' ⟨v',rfl,h1,h3,h2⟩;rw[←HRH.out]at h1;exact⟨v',rfl,h2,h1.mono hS,HSZR.out.2⟩
       ·intro f wa hG hp hl;simp only[OpGoal];go_simp;exact⟨_,rfl,Ext.refl _,rfl⟩
       ·intro f wa hG hp hl;have hE:Ext w9 wa:=hG;have hS:=hE.size
        have q82:f 10= .pointer (some ⟨g9,2,none⟩):=tellG hp 0 10 rfl rfl (fun h=>by cases h)
        have q81:=tellG hp 1 9 rfl rfl (fun _=>hE);intro hg0;change OpGoal _ _ _ f wa (Chg _) _;obtain⟨b',ad1,m1,e1,ad2,m2,e2,hv,hfq⟩:=FrQ.opn q81.1;have hsz:=q81.2;exact og_storeAt (P:=Tryz.prog) g9 2 36 _ [.int .i64 s,.slice a9 n9 p9,.bool b,.slice a1 n1 c1,.slice a2 n2 c2] #[.bool b',.slice ad1 m1 e1,.slice ad2 m2 e2] _ _ rfl rfl q82 hv (by kernel_rfl) (show Bx 36 wa _ _ from hg0.trans S9) (show 2+3≤5 by decide) (all3 rfl rfl rfl) (fun w' hc hb u=>⟨b',ad1,m1,e1,ad2,m2,e2,hb,hfq.chg hc (by omega),hsz⟩)
      ·intro f w10 hG hp;have hz0:=endGS hp 11 (by decide);clear hp;have hC:Chg g9 w9 w10:=ChgS.one hG;obtain⟨b',ad1,m1,e1,ad2,m2,e2,S10,hr10,hrs⟩:=hz0;have X10:=X9.step hC (by omega);have HJ:Hid (CmJ w K R g6 g9 s qs cs0 (i+1) w10):=Lib.hid ⟨X10,HG.out,D9.chg hC (by omega),a9,n9,p9,b',ad1,m1,e1,ad2,m2,e2,S10,TO.chgB HT9.out hC S9 (by decide) (by decide),hr10.mono (by omega),hrs⟩;clear hC hG S9 C9 D9 S10 hr10 hrs HR9 HT9 X9 X8 X10;go_wp2;go_roundw
       case rel=>exact ⟨i+1,241,by omega,congrArg (Value.int .i64) (by omega),rfl,HCD2,HSN,HJ⟩
       case measure=>simp [intOf];omega
end Go.Proofs.YtokfaggcojokgaaGreat
