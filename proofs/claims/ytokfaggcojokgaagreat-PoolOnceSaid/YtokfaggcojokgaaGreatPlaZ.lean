/-
 Pools, plainly: a constraint scaled; what a pool holds behind an addition.
-/
import Derived.Test.YtokfaggcojokgaaGreatCnaZ
import Derived.Test.YtokfaggcojokgaaGreatVfcZ
import Derived.Test.YtokfaggcojokgaaGreatCmaZ
import Derived.Test.YtokfaggcojokgaaGreatCnhZ
import Derived.Test.YtokfaggcojokgaaGreatCnsZ
import Derived.Test.YtokfaggcojokgaaGreatCnlZ
namespace Go.Proofs.YtokfaggcojokgaaGreat
set_option maxRecDepth 100000
set_option maxHeartbeats 1000000
open Go.RowKit
set_option linter.unusedVariables false
set_option linter.unusedSimpArgs false
def leadA(m:List (Int×Rat)):Rat:=match m with | []=>1 |t::_=>if t.2<0 then -t.2 else t.2
def scaleC(c:CR):CR:=(c.1,scV (1 / leadA (mkV c.2.1)) (mkV c.2.1),1 / leadA (mkV c.2.1)*c.2.2)
theorem lead_pos{m:List (Int×Rat)}(h:Nf m):0<leadA m:=by
 match m,h with
 | [],_=>exact (by decide:(0:Rat)<1)
 |t::m,h=>
  have:=h.2 t (List.mem_cons_self ..)
  unfold leadA
  simp only
  split<;>grind
theorem inv_pos'{q:Rat}(h:0<q):0<1 / q:=by
 rw[Rat.div_def,Rat.one_mul];exact Rat.inv_pos.2 h
theorem scV_nf{a:Rat}(ha:a≠0){m:List (Int×Rat)}(h:Nf m):Nf (scV a m):=by
 refine⟨⟨?_,?_⟩,?_⟩
 ·unfold scV;rw[List.pairwise_map];exact h.1.1
 ·intro x hx;obtain⟨y,hy,rfl⟩:=List.mem_map.1 hx;exact h.1.2 y hy
 ·intro x hx;obtain⟨y,hy,rfl⟩:=List.mem_map.1 hx
  have:=h.2 y hy
  simp only
  intro h0
  rcases Rat.mul_eq_zero.1 h0 with h1 |h1
  ·exact ha h1
  ·exact this h1
theorem scV_one(m:List (Int×Rat)):scV 1 m=m:=by
 unfold scV
 conv=>rhs;rw[←List.map_id m]
 refine List.map_congr_left fun x _=> ?_
 simp[Rat.one_mul]
theorem mkV_nfs{m:List (Int×Rat)}(h:Nf m):mkV m=m:=(mkV_eq h fun _=>rfl).symm
theorem scale_f(c:CR):0<1 / leadA (mkV c.2.1):=inv_pos' (lead_pos (mkV_nf _))
theorem scale_nf(c:CR):Nf (scaleC c).2.1:=scV_nf (by have:=scale_f c;grind) (mkV_nf _)
theorem scale_mk(c:CR):mkV (scaleC c).2.1=(scaleC c).2.1:=mkV_nfs (scale_nf c)
theorem lead_sc{a:Rat}(ha:0<a):∀{m:List (Int×Rat)},m≠ []→leadA (scV a m)=a*leadA m
 | [],h=>absurd rfl h
 |t::m,_=>by
  unfold leadA scV;simp only[List.map_cons]
  have h1:a*t.2<0↔t.2<0:=by
   constructor
   ·intro h
    by_cases h0:t.2<0
    ·exact h0
    ·have:=Rat.mul_nonneg (Rat.le_of_lt ha) (by grind:0≤t.2)
     grind
   ·intro h
    have:=mul_mono_neg h (Rat.le_of_lt ha)
    by_cases h0:a*t.2<0
    ·exact h0
    ·have h2:a*t.2=0:=by
      have:=mul_mono_pos ha (Rat.le_of_lt h)
      grind
     rcases Rat.mul_eq_zero.1 h2 with h3 |h3<;>grind
  by_cases h0:t.2<0
  ·rw[if_pos h0,if_pos (h1.2 h0)];grind
  ·rw[if_neg h0,if_neg (fun h=>h0 (h1.1 h))]
theorem scale_empty(c:CR):(scaleC c).2.1=[]↔mkV c.2.1=[]:=by
 unfold scaleC scV
 simp
theorem scale_twice(c:CR):scaleC (scaleC c)=scaleC c:=by
 have hf:1 / leadA (mkV (scaleC c).2.1)=1:=by
  rw[scale_mk]
  by_cases h:mkV c.2.1=[]
  ·rw[(scale_empty c).2 h]
   show(1:Rat) / 1=1
   decide+kernel
  ·have h1:=lead_pos (mkV_nf c.2.1)
   show 1 / leadA (scV (1 / leadA (mkV c.2.1)) (mkV c.2.1))=1
   rw[lead_sc (scale_f c) h,Rat.div_def 1 (leadA (mkV c.2.1)),Rat.one_mul,Rat.inv_mul_cancel _ (by grind)]
   decide+kernel
 show((scaleC c).1,scV (1 / leadA (mkV (scaleC c).2.1)) (mkV (scaleC c).2.1),1 / leadA (mkV (scaleC c).2.1)*(scaleC c).2.2)=scaleC c
 rw[hf,scV_one,Rat.one_mul,scale_mk]
theorem kept_sc{a:Rat}(ha:0<a)(s:Int)(x r:Rat):keptQ s (a*x) (a*r)=keptQ s x r:=by
 have le:∀{u v:Rat},a*u≤a*v↔u≤v:=fun{u v}=>⟨fun h=>by
  by_cases h0:u≤v
  ·exact h0
  ·have h1:=mul_mono_pos (inv_pos' ha) h;rw[←Rat.mul_assoc,←Rat.mul_assoc,Rat.div_def,Rat.one_mul,Rat.inv_mul_cancel _ (by grind),Rat.one_mul,Rat.one_mul]at h1
   exact h1,fun h=>mul_mono_pos ha h⟩
 have eq:a*x=a*r↔x=r:=⟨fun h=>Rat.le_antisymm (le.1 (by rw[h];exact Rat.le_refl)) (le.1 (by rw[h];exact Rat.le_refl)),fun h=>by rw[h]⟩
 unfold keptQ;rw[decide_eq_decide,le,le,eq]
theorem scale_holds(c:CR)(xs:List Rat):holdsC (scaleC c) xs=holdsC c xs:=by
 unfold holdsC
 show keptQ c.1 (dotV (scV (1 / leadA (mkV c.2.1)) (mkV c.2.1)) xs) (1 / leadA (mkV c.2.1)*c.2.2)=_
 rw[dotV_sc,dotV_mk,kept_sc (scale_f c)]
def likeP(x s:CR):Bool:=decide (x.1=s.1)&&likeC x s
theorem likeP_iff{x s:CR}:likeP x s=true↔x.1=s.1∧mkV x.2.1=mkV s.2.1:=by
 unfold likeP;rw[Bool.and_eq_true,decide_eq_true_iff,likeC_iff]
def idxP:List CR→CR→Int
 | [],_=> -1
 |x::cs,s=>if likeP x s then 0 else(if idxP cs s<0 then -1 else idxP cs s+1)
def putAt:List CR→CR→List CR
 | [],s=> [s]
 |x::cs,s=>if likeP x s then s::cs else x::putAt cs s
def comesP(cs:List CR)(c:CR):Bool:=sens c.1&&(!bareC c&& !cs.any fun x=>domC x (scaleC c))
def addP(cs:List CR)(c:CR):List CR:=if comesP cs c then putAt cs (scaleC c)else cs
theorem idxP_neg:∀{cs:List CR} {s:CR},idxP cs s<0→idxP cs s= -1∧putAt cs s=cs++ [s]∧∀x∈cs,likeP x s=false
 | [],s,_=>⟨rfl,rfl,fun x hx=>by cases hx⟩
 |x::cs,s,h=>by
  unfold idxP at h ⊢
  by_cases hl:likeP x s=true
  ·rw[if_pos hl]at h;omega
  ·rw[if_neg hl]at h ⊢
   by_cases h2:idxP cs s<0
   ·obtain⟨-,k2,k3⟩:=idxP_neg h2;rw[if_pos h2];refine⟨rfl,by rw[putAt,if_neg hl,k2];rfl,fun y hy=> ?_⟩
    rcases List.mem_cons.1 hy with rfl |hy
    ·simpa using hl
    ·exact k3 y hy
   ·rw[if_neg h2]at h;omega
theorem idxP_nat:∀{cs:List CR} {s:CR},¬idxP cs s<0→∃i:Nat,idxP cs s=(i:Int)∧i<cs.length∧putAt cs s=cs.set i s∧∃x,cs[i]? =some x∧likeP x s=true
 | [],s,h=>absurd (by decide:(-1:Int)<0) h
 |x::cs,s,h=>by
  unfold idxP at h ⊢
  by_cases hl:likeP x s=true
  ·rw[if_pos hl];exact⟨0,rfl,by simp,by rw[putAt,if_pos hl];rfl,x,rfl,hl⟩
  ·rw[if_neg hl]at h ⊢
   by_cases h2:idxP cs s<0
   ·rw[if_pos h2]at h;omega
   ·obtain⟨i,k1,k2,k3,y,k4,k5⟩:=idxP_nat h2;rw[if_neg h2];exact⟨i+1,by omega,by simp;omega,by rw[putAt,if_neg hl,k3];rfl,y,by simpa using k4,k5⟩
theorem putAt_mem{cs:List CR}{s x:CR}(h:x∈putAt cs s):x=s∨x∈cs:=by
 by_cases h2:idxP cs s<0
 ·rw[(idxP_neg h2).2.1,List.mem_append,List.mem_singleton]at h;exact h.symm
 ·obtain⟨i,k1,k2,k3, -⟩:=idxP_nat h2;rw[k3]at h;exact(List.mem_or_eq_of_mem_set h).symm
theorem putAt_in(cs:List CR)(s:CR):s∈putAt cs s:=by
 by_cases h2:idxP cs s<0
 ·rw[(idxP_neg h2).2.1];simp
 ·obtain⟨i,k1,k2,k3, -⟩:=idxP_nat h2;rw[k3];exact List.mem_set k2 s
theorem putAt_len(cs:List CR)(s:CR):(putAt cs s).length≤cs.length+1:=by
 by_cases h2:idxP cs s<0
 ·rw[(idxP_neg h2).2.1];simp
 ·obtain⟨i,k1,k2,k3, -⟩:=idxP_nat h2;rw[k3,List.length_set];omega
theorem putAt_old:∀{cs:List CR} {s x:CR},x∈cs→x∈putAt cs s∨likeP x s=true
 |y::cs,s,x,h=>by
  unfold putAt
  by_cases hl:likeP y s=true
  ·rw[if_pos hl]
   rcases List.mem_cons.1 h with rfl |h
   ·exact .inr hl
   ·exact .inl (List.mem_cons_of_mem _ h)
  ·rw[if_neg hl]
   rcases List.mem_cons.1 h with rfl |h
   ·exact .inl (List.mem_cons_self ..)
   ·rcases putAt_old (s:=s) h with h |h
    ·exact .inl (List.mem_cons_of_mem _ h)
    ·exact .inr h
def Apart(cs:List CR):Prop:=cs.Pairwise fun x y=>¬(x.1=y.1∧mkV x.2.1=mkV y.2.1)
theorem putAt_apart:∀{cs:List CR} {s:CR},Apart cs→Apart (putAt cs s)
 | [],s,_=>List.pairwise_singleton _ _
 |y::cs,s,h=>by
  unfold putAt;obtain⟨h1,h2⟩:=List.pairwise_cons.1 h
  by_cases hl:likeP y s=true
  ·rw[if_pos hl];obtain⟨l1,l2⟩:=likeP_iff.1 hl;refine List.pairwise_cons.2 ⟨fun z hz hc=>h1 z hz ⟨l1.trans hc.1,l2.trans hc.2⟩,h2⟩
  ·rw[if_neg hl];refine List.pairwise_cons.2 ⟨fun z hz hc=> ?_,putAt_apart h2⟩
   rcases putAt_mem hz with rfl |hz
   ·exact hl (likeP_iff.2 hc)
   ·exact h1 z hz hc
structure PoolJ (cs seen:List CR):Prop where
 ok:∀x∈cs,sens x.1=true∧Nf x.2.1∧x.2.1≠ []
 apart:Apart cs
 sense:∀x∈cs,∃c∈seen,x.1=c.1
 dom:(∀c∈seen,c.1≠3)→∀c∈seen,sens c.1=true→bareC c=false→∃x∈cs,domC x (scaleC c)=true
theorem PoolJ.nil:PoolJ [] []:=⟨fun x hx=>(by cases hx),List.Pairwise.nil,fun x hx=>(by cases hx),fun _ c hc=>(by cases hc)⟩
theorem not_false{x:CR}(h:mkV x.2.1≠ []):falseC x=false:=by
 cases hf:falseC x with
 |false=>rfl
 |true=>exact absurd (falseC_iff.1 hf).2.1 h
theorem dom_iff{a b:CR}(ha:sens a.1=true)(hb:sens b.1=true)(hna:mkV a.2.1≠ [])(hnb:mkV b.2.1≠ []):domC a b=true↔likeC a b=true∧(a.1=b.1∨a.1=3)∧keptQ b.1 a.2.2 b.2.2=true:=by
 unfold domC
 have h1:bareC b=false:=by
  cases h:bareC b with
  |false=>rfl
  |true=>exact absurd (bareC_iff.1 h) hnb
 rw[ha,hb,not_false hna,h1];simp only[Bool.true_and,Bool.false_and,Bool.or_false,Bool.false_or,Bool.and_eq_true,decide_eq_true_iff,and_assoc]
theorem kept_flip{s:Int}(hs:sens s=true)(h3:s≠3){a b:Rat}(h:keptQ s a b=false):keptQ s b a=true:=by
 rw[sens_iff]at hs;rw[keptQ_iff]
 have hn:¬((s=1∧a≤b)∨(s=2∧b≤a)∨(s=3∧a=b)):=fun hc=>by
  rw[keptQ_iff.2 hc]at h;cases h
 rcases(by omega:s=1∨s=2)with rfl |rfl
 ·exact .inl ⟨rfl,by have:=fun hh=>hn (.inl ⟨rfl,hh⟩);grind⟩
 ·exact .inr (.inl ⟨rfl,by have:=fun hh=>hn (.inr (.inl ⟨rfl,hh⟩));grind⟩)
theorem PoolJ.add{cs seen:List CR}(h:PoolJ cs seen)(c:CR):PoolJ (addP cs c) (seen++ [c]):=by
 have hsn:∀x∈cs,∃d∈seen++ [c],x.1=d.1:=fun x hx=>by
  obtain⟨d,hd,e⟩:=h.sense x hx;exact⟨d,List.mem_append_left _ hd,e⟩
 unfold addP
 by_cases hc:comesP cs c=true
 ·rw[if_pos hc];unfold comesP at hc;simp only[Bool.and_eq_true,Bool.not_eq_true']at hc;obtain⟨c1,c2,c3⟩:=hc
  have hnb:mkV c.2.1≠ []:=fun e=>by rw[bareC_iff.2 e]at c2;cases c2
  have hsn1:sens (scaleC c).1=true:=c1
  have hne:(scaleC c).2.1≠ []:=fun e=>hnb ((scale_empty c).1 e)
  have hmk:mkV (scaleC c).2.1≠ []:=by rw[scale_mk];exact hne
  refine⟨fun x hx=> ?_,putAt_apart h.apart,fun x hx=> ?_,fun h3 d hd k1 k2=> ?_⟩
  ·rcases putAt_mem hx with rfl |hx
   ·exact⟨hsn1,scale_nf c,hne⟩
   ·exact h.ok x hx
  ·rcases putAt_mem hx with rfl |hx
   ·exact⟨c,by simp,rfl⟩
   ·exact hsn x hx
  ·have h3s:∀d∈seen,d.1≠3:=fun d hd=>h3 d (List.mem_append_left _ hd)
   rcases List.mem_append.1 hd with hd |hd
   ·obtain⟨x,hx,hdx⟩:=h.dom h3s d hd k1 k2
    rcases putAt_old (s:=scaleC c) hx with hm |hl
    ·exact⟨x,hm,hdx⟩
    ·obtain⟨o1,o2,o3⟩:=h.ok x hx
     have hmx:mkV x.2.1≠ []:=by rw[mkV_nfs o2];exact o3
     obtain⟨l1,l2⟩:=likeP_iff.1 hl
     have hx3:x.1≠3:=by
      obtain⟨e,he,hxe⟩:=h.sense x hx;rw[hxe];exact h3s e he
     have hnd:domC x (scaleC c)=false:=by
      have:=List.any_eq_false.1 c3 x hx
      simpa using this
     have hk:keptQ (scaleC c).1 x.2.2 (scaleC c).2.2=false:=by
      cases hk:keptQ (scaleC c).1 x.2.2 (scaleC c).2.2 with
      |false=>rfl
      |true=>
       rw[(dom_iff o1 hsn1 hmx hmk).2 ⟨likeC_iff.2 l2,.inl l1,hk⟩]at hnd
       cases hnd
     have hsx:domC (scaleC c) x=true:=(dom_iff hsn1 o1 hmk hmx).2 ⟨likeC_iff.2 l2.symm,.inl l1.symm,by
      have:=kept_flip hsn1 (by rw[←l1];exact hx3) hk
      rw[l1]
      exact this⟩
     exact⟨_,putAt_in _ _,dom_trans hsx hdx (not_false hmx)⟩
   ·rw[List.mem_singleton]at hd;subst hd;exact⟨_,putAt_in _ _,by rw[dom_self];exact k1⟩
 ·rw[if_neg hc];refine⟨h.ok,h.apart,hsn,fun h3 d hd k1 k2=> ?_⟩
  rcases List.mem_append.1 hd with hd |hd
  ·exact h.dom (fun d hd=>h3 d (List.mem_append_left _ hd)) d hd k1 k2
  ·rw[List.mem_singleton]at hd;subst hd;unfold comesP at hc;rw[k1,k2]at hc;simp only[Bool.true_and,Bool.not_false,Bool.not_eq_true,Bool.not_eq_false']at hc;obtain⟨x,hx,h4⟩:=List.any_eq_true.1 hc;exact⟨x,hx,h4⟩
theorem szQ_inv{y:Rat}(h:y≠0):szQ (1 / y)≤szQ y:=by
 rw[Rat.div_def,Rat.one_mul,Rat.inv_def];refine Nat.le_trans (szQ_divInt _ _ (by rwa [Ne,Rat.num_eq_zero])) ?_;unfold szQ szZ;rw[Int.natAbs_natCast]
 omega
theorem sign_neg(q:Rat):q.num.sign<0↔q<0:=by
 rw[Int.sign_neg_iff,←Int.not_le,←Rat.not_le,Rat.num_nonneg]
theorem putR{t:TypeId}{w:World}{g:Nat}{a b c:Value}(h:Bx t w g #[a,b,c])(a' b' c':Value):∃w1,w1=(((w.setCell ⟨g,0,none⟩ a').setCell ⟨g,1,none⟩ b').setCell ⟨g,2,none⟩ c')∧Chg g w w1∧Bx t w1 g #[a',b',c']:=
 ⟨_,rfl,((Chg.setCell w g 0 _).trans (Chg.setCell _ g 1 _)).trans (Chg.setCell _ g 2 _),((h.set 0 a').set 1 b').set 2 c'⟩
theorem scale_szs{K:Nat}{m:List (Int×Rat)}(hm:Nf m)(h:∀x∈m,szQ x.2≤K):(m≠ []→szQ (leadA m)≤K)∧(m≠ []→szQ (1 / leadA m)≤K)∧(m≠ []→∀x∈scV (1 / leadA m) m,szQ x.2≤2*K):=by
 have h1:m≠ []→szQ (leadA m)≤K:=by
  intro hne
  match m,hne,h with
  |t::m,_,h=>
   have:=h t (List.mem_cons_self ..)
   unfold leadA
   simp only
   split
   ·rw[szQ_neg];exact this
   ·exact this
 have h2:m≠ []→szQ (1 / leadA m)≤K:=fun hne=>Nat.le_trans (szQ_inv (by have:=lead_pos hm;grind)) (h1 hne)
 exact⟨h1,h2,fun hne x hx=>by
  have:=scV_szs (h2 hne) h x hx
  omega⟩
set_option maxHeartbeats 16000000 in
theorem pscale_calls(k K:Nat)(v:Value)(c:CR)(w:World)(hv:CnR k w v c)(hn:c.2.1.length≤1073741824)(hK:c.2.1.length*(k+1)≤K)(hK2:k≤K)(hK1:1≤K)(hB:(c.2.1.length+1)*(2*K+2)≤34359738000):
  Calls Tryz.prog 65 #[v] w fun e w'=>∃v',e= .returned v'∧CnO w.heap.size (2*K) w' v' (scaleC c)∧Ext w w':=by
 obtain⟨s,l,x⟩:=c
 simp only at hn hK hB
 obtain⟨a,n,p,b,a1,n1,c1,a2,n2,c2,rfl,ht,hr⟩:=hv.op;have HT:=Lib.hid ht;have HR:=Lib.hid hr;clear ht hr
 have lim:68719476736≤LIM:=by rw[LIM_eq];omega
 have hKb:2*K+2≤(l.length+1)*(2*K+2):=Nat.le_mul_of_pos_left _ (by omega);have hKk:(l.length+1)*(k+1)≤34359738000:=Nat.le_trans (Nat.mul_le_mul_left _ (by omega:k+1≤2*K+2)) hB;have HBG:Hid (((mkV l).length+1)*(2*K+1)≤34359738000):=Lib.hid (Nat.le_trans (Nat.mul_le_mul (by have:=mkV_len l;omega) (by omega)) hB)
 have hml:(mkV l).length≤1073741824:=by have:=mkV_len l;omega
 have HNF:=Lib.hid (mkV_nf l);obtain⟨m,hm⟩:∃m,m=mkV l:=⟨_,rfl⟩;rw[←hm]at HBG hml HNF;have HM:=Lib.hid hm;have HXS:=Lib.hid (show szQ x≤K from Nat.le_trans HR.out.sz hK2);obtain⟨w1,hw1,e1,b1_,b2_,s1⟩:=alloc2 w #[.int .i64 s,.slice a n p,.bool b,.slice a1 n1 c1,.slice a2 n2 c2] #[.int .i64 0,.slice none 0 0,.bool false,.slice none 0 0,.slice none 0 0] 36 36
 go_enter Tryz.func65,Tryz.ntmps65
 have hb:=b1_;have hb0:=hb.cell 0;have hbf0:=hb.free 0;have hb1:=hb.cell 1;have hbf1:=hb.free 1;have hb2:=hb.cell 2;have hbf2:=hb.free 2;have hb3:=hb.cell 3;have hbf3:=hb.free 3;have hb4:=hb.cell 4;have hbf4:=hb.free 4;rw[hw1]at hb0 hb1 hb2 hb3 hb4 hbf0 hbf1 hbf2 hbf3 hbf4;go_wp2_with fail;rw[←hw1];clear hb hb0 hb1 hb2 hb3 hb4 hbf0 hbf1 hbf2 hbf3 hbf4 hw1;refine(cform_calls k K _ (s,l,x) w1 ⟨a,n,p,b,a1,n1,c1,a2,n2,c2,rfl,HT.out.ext e1,HR.out.ext e1⟩ hn hKk hK hK2).mono ?_;rintro e w3 ⟨v3,rfl,hf,e3⟩;have hs3:=e3.size;have hf':CnO w1.heap.size K w3 v3 (s,mkV l,x):=hf;rw[←hm]at hf';obtain⟨a',n',p',b',a1',n1',c1',a2',n2',c2',rfl,ht3,hr3,hz3⟩:=hf'.op;obtain⟨ad,cp,hcv⟩:=ht3.val
 cases hcv
 clear hf hf' hm;have E3:=e1.trans e3;have hb:=b1_.ext e3;obtain⟨w4,hw4,c4,b4⟩:=put5 hb (.int .i64 s) (.slice a' m.length p') (.bool b') (.slice a1' n1' c1') (.slice a2' n2' c2');have X4:Ext w w4:=E3.step c4 (Nat.le_refl _);have HT4:=Lib.hid ((ht3.chg c4 (by omega)).mono (show w.heap.size+2≤_ by omega));have HR4:=Lib.hid ((hr3.chg c4 (by omega)).mono (show w.heap.size+2≤_ by omega));have BQ4:=(b2_.ext e3).chg c4 (by omega);have hs4:=c4.size;have hb0:=hb.cell 0;have hbf0:=hb.free 0;have hb1:=hb.cell 1;have hbf1:=hb.free 1;have hb2:=hb.cell 2;have hbf2:=hb.free 2;have hb3:=hb.cell 3;have hbf3:=hb.free 3;have hb4:=hb.cell 4;have hbf4:=hb.free 4;clear ht3 hr3 b1_ b2_ hz3
 go_upto_region 2 with(fail)
 rw[←hw4];clear hb hb0 hb1 hb2 hb3 hb4 hbf0 hbf1 hbf2 hbf3 hbf4 hw4 c4 E3 e3 e1;obtain⟨nn,hnn⟩:∃nn,nn=m.length:=⟨_,rfl⟩;have HNN:=Lib.hid hnn;have HMLN:=Lib.hid hml;rw[←hnn]at b4 hml;obtain⟨cm,hcm⟩:∃cm,cm=Value.slice a' nn p':=⟨_,rfl⟩
 rcases Nat.eq_zero_or_pos nn with h0 |h0
 ·subst h0
  have hme:m=[]:=List.eq_nil_of_length_eq_zero hnn.symm
  have HME:=Lib.hid hme;clear hnn hme hcm
  have hz:((0:Nat):Int)=0:=rfl
  have hb:=b4;have hq:=BQ4;have hb0:=hb.cell 0;have hbf0:=hb.free 0;have hb1:=hb.cell 1;have hbf1:=hb.free 1;have hb2:=hb.cell 2;have hbf2:=hb.free 2;have hb3:=hb.cell 3;have hbf3:=hb.free 3;have hb4:=hb.cell 4;have hbf4:=hb.free 4;have hq0:=hq.cell 0;have hqf0:=hq.free 0;have hq1:=hq.cell 1;have hqf1:=hq.free 1;have hq2:=hq.cell 2;have hqf2:=hq.free 2;have hq3:=hq.cell 3;have hqf3:=hq.free 3;have hq4:=hq.cell 4;have hqf4:=hq.free 4;go_wp2;refine ret_box 2 36 (w.heap.size+1) 36 _ _ (by kernel_rfl) rfl (((((hq.set 0 _).set 1 _).set 2 _).set 3 _).set 4 _) Tryz.underlying36 rfl (by kernel_rfl) rfl ?_;refine⟨_,rfl,?_,X4.step (((((Chg.setCell _ (w.heap.size+1) 0 _).trans (Chg.setCell _ (w.heap.size+1) 1 _)).trans (Chg.setCell _ (w.heap.size+1) 2 _)).trans (Chg.setCell _ (w.heap.size+1) 3 _)).trans (Chg.setCell _ (w.heap.size+1) 4 _)) (by omega)⟩
  have hsc:scaleC (s,l,x)=(s,m,x):=by
   unfold scaleC
   simp only
   rw[←HM.out,HME.out]
   show(s,[],1 / 1*x)=_
   rw[show (1:Rat) / 1=1 by decide+kernel,Rat.one_mul]
  rw[hsc];have ht:=HT4.out;rw[HME.out]at ht ⊢;exact⟨a',0,p',b',a1',n1',c1',a2',n2',c2',rfl,((ht.chg ((((((Chg.setCell _ (w.heap.size+1) 0 _).trans (Chg.setCell _ (w.heap.size+1) 1 _)).trans (Chg.setCell _ (w.heap.size+1) 2 _)).trans (Chg.setCell _ (w.heap.size+1) 3 _)).trans (Chg.setCell _ (w.heap.size+1) 4 _)):Chg (w.heap.size+1) _ _) (by omega)).mono (by omega)).le (by omega),(HR4.out.chg ((((((Chg.setCell _ (w.heap.size+1) 0 _).trans (Chg.setCell _ (w.heap.size+1) 1 _)).trans (Chg.setCell _ (w.heap.size+1) 2 _)).trans (Chg.setCell _ (w.heap.size+1) 3 _)).trans (Chg.setCell _ (w.heap.size+1) 4 _)):Chg (w.heap.size+1) _ _) (by omega)).mono (by omega),by have:=HXS.out;simp only;omega⟩
 ·have hz:¬((nn:Int)=0):=by omega
  have hz2:((nn:Int)==0)=false:=by simpa using hz
  have hpos:(0:Int)<(nn:Int):=by omega
  have hne:m≠ []:=fun h=>by rw[h]at hnn;simp at hnn;omega
  have HNE:=Lib.hid hne;have HSZ:=Lib.hid (scale_szs HNF.out HT4.out.szs);have HLZ:Hid (leadA m≠0):=Lib.hid (by have:=lead_pos HNF.out;grind);have HSN:Hid (Nf (scV (1 / leadA m) m)):=Lib.hid (scV_nf (by have:=inv_pos' (lead_pos HNF.out);grind) HNF.out);have HMS:Hid (szQ (1 / leadA m*x)≤2*K):=Lib.hid (by have:=szQ_mul (HSZ.out.2.1 HNE.out) HXS.out;omega);obtain⟨⟨tc,q⟩,hx⟩:∃y,m[0]? =some y:=⟨_,List.getElem?_eq_getElem (by omega)⟩
  have HLD:Hid (leadA m=if q<0 then -q else q):=Lib.hid (by
   match m,hx with
   |t::m,hx=>
    cases hx
    rfl)
  obtain⟨ad',cp',hav, -,hat⟩:=HT4.out.at
  cases hav
  obtain⟨gt,rfl,tb,ta1,tn1,tc1,ta2,tn2,tc2,hcell,hqf,hqs⟩:=hat 0 _ hx;have hcl:=hcell w4 (Ext.refl _);simp only[Nat.zero_mul,Nat.zero_add]at hcl;obtain⟨ht0,ht1,ht2,ht3⟩:=hcl;have HQF:=Lib.hid (And.intro hqf hqs);clear hnn hne hx hat hcell hqf hqs;have hb:=b4;have hb0:=hb.cell 0;have hb1:=hb.cell 1;have hb2:=hb.cell 2;have hb3:=hb.cell 3;have hb4:=hb.cell 4;obtain⟨w5,hw5,e5,b5,s5⟩:=alloc1 w4 #[.bool tb,.slice ta1 tn1 tc1,.slice ta2 tn2 tc2] 34;go_wp2_with fail;rw[←hw5];refine(rsign_calls _ q K w5 ((HQF.out.1.ext e5).isR HQF.out.2 (by omega))).mono ?_;rintro e w6 ⟨rfl,e6⟩;have h46:=e5.trans e6;clear hb hb0 hb1 hb2 hb3 hb4 ht0 ht1 ht2 ht3 hw5
  by_cases hq0:q<0
  ·have hsg:q.num.sign<0:=(sign_neg q).2 hq0
   have HLQ:Hid (leadA m= -q):=Lib.hid (by rw[HLD.out,if_pos hq0])
   have hr:=b5.ext e6;have hr0:=hr.cell 0;have hrf0:=hr.free 0;have hr1:=hr.cell 1;have hrf1:=hr.free 1;have hr2:=hr.cell 2;have hrf2:=hr.free 2;go_wp2_with fail;refine(rneg_calls _ q K w6 ((HQF.out.1.ext h46).isR HQF.out.2 (by omega)) (by omega)).mono ?_;rintro e w7 ⟨v7,rfl,hq7,e7⟩;obtain⟨b3,a31,n31,c31,a32,n32,c32,rfl,hf7⟩:=FrQ.opn hq7;clear hr0 hr1 hr2 hrf0 hrf1 hrf2 hr hq7;have h47:=h46.trans e7;have hr:=b5.ext (e6.trans e7);have hg3:=hr.lt;have hl5:=h46.size;have hl7:=e7.size;have hwl:=X4.size;have P7:=b4.ext h47;have Z7:=BQ4.ext h47;have hP7:=Z7.lt;obtain⟨g3,hg⟩:∃g3,g3=w4.heap.size:=⟨_,rfl⟩;have hzl:=BQ4.lt;rw[←hg]at hr;obtain⟨wA,hwA,cA,RA⟩:=putR hr (.bool b3) (.slice a31 n31 c31) (.slice a32 n32 c32);have hr0:=hr.cell 0;have hrf0:=hr.free 0;have hr1:=hr.cell 1;have hrf1:=hr.free 1;have hr2:=hr.cell 2;have hrf2:=hr.free 2;rw[hg]at hr0 hr1 hr2 hrf0 hrf1 hrf2
   go_upto_region 7 with(fail)
   rw[←hg];rw[←hwA];have EA:Ext w wA:=(X4.trans h47).step cA (by omega);have PA:=P7.chg cA (by omega);have ZA:=Z7.chg cA (by omega);have hzA:=ZA.lt
   have QA:=Lib.hid (show FrQ (w.heap.size+2) wA (.agg #[.bool b3,.slice a31 n31 c31,.slice a32 n32 c32]) (leadA m)by
    rw[HLQ.out]
    exact(hf7.chgB cA hr (by decide)).mono (by omega))
   have TA:=Lib.hid (show TO (w.heap.size+2) K wA cm m by
    rw[hcm,HNN.out]
    exact(HT4.out.ext h47).chgB cA hr (by decide) (by decide))
   have XA:=Lib.hid ((HR4.out.ext h47).chgB cA hr (by decide));rw[←hcm]at PA;clear hr hr0 hr1 hr2 hrf0 hrf1 hrf2 hwA cA hf7 h47 h46 e5 e6 e7 P7 Z7 b4 b5 BQ4 X4 HQF hsg hq0;go_wp2_with fail;refine wp_region_alt [⟨6,34,3,#[.bool false,.slice none 0 0,.slice none 0 0]⟩] [⟨7,⟨6,34,3,#[.bool false,.slice none 0 0,.slice none 0 0]⟩,PT.frQ (1 / leadA m)⟩] [PT.frQ ((1:Int):Rat),PT.val (.agg #[.bool b3,.slice a31 n31 c31,.slice a32 n32 c32]),PT.tupQ (1 / leadA m),PT.tupQ (1 / leadA m),PT.frQ (1 / leadA m),PT.val (.int .i64 0),PT.any,PT.any,PT.val (.int .i64 0)]
    (by kernel_rfl) (by kernel_rfl) (fun f=>(by simp only[fillR,fillL,List.setIfInBounds_toArray,List.set_cons_succ,List.set_cons_zero,Nat.reduceAdd];rfl)) ?_ ?_ ?_ ?_ ?_
   ·intro x hx;simp only[List.mem_cons,List.not_mem_nil,or_false]at hx;rcases hx with rfl
    ·exact⟨rfl,rfl,by decide,by decide,rfl,rfl⟩
   ·intro x hx;simp only[List.mem_cons,List.not_mem_nil,or_false]at hx;rcases hx with rfl<;>exact ⟨rfl,rfl,by simp⟩
   ·intro x hx y hy h;simp only[List.mem_cons,List.not_mem_nil,or_false]at hx hy;rcases hx with rfl<;>rcases hy with rfl
    ·exact absurd rfl h
   ·refine⟨?_,?_,?_,?_,?_,?_,?_,?_,?_,trivial⟩
    ·intro f wn hE hp;have hS:=hE.size;change OpGoal _ _ _ f wn Ext _;refine oC #[.int .i64 1] Tryz.func78 rfl rfl ?_;refine(rwhole_calls 1 _ (by omega) (by omega)).mono ?_;rintro e w' ⟨v',rfl,h1,h2⟩;exact⟨v',rfl,h2,h1.mono hS⟩
    ·intro f wn hE hp;have hS:=hE.size;change OpGoal _ _ _ f wn Ext _;exact og_load (P:=Tryz.prog) _ _ g3 _ _ _ rfl rfl rfl (RA.ext hE) Tryz.underlying34 rfl (by kernel_rfl) rfl
    ·intro f wn hE hp;have hS:=hE.size;have q24:=tellT hp 0 0 rfl rfl rfl
     have q25:f 1= .agg #[.bool b3,.slice a31 n31 c31,.slice a32 n32 c32]:=tellT hp 1 1 rfl rfl rfl
     change OpGoal _ _ _ f wn Ext _;refine oC #[f 0,f 1] Tryz.func140 rfl rfl ?_;rw[q25];refine(rdiv_calls _ _ ((1:Int):Rat) (leadA m) 1 K _ (q24.isR szQ_int1 (by omega)) ((QA.out.ext hE).isR (HSZ.out.1 HNE.out) (by omega)) HLZ.out (by omega)).mono ?_;rintro e w' ⟨v',rfl,h1, -,h2⟩;exact⟨_,rfl,h2,v',rfl,h1.mono hS⟩
    ·intro f wn hE hp;have hS:=hE.size;have q26:=tellT hp 0 2 rfl rfl rfl;change OpGoal _ _ _ f wn Ext _;exact⟨_,rfl,Ext.refl _,q26⟩
    ·intro f wn hE hp;have hS:=hE.size;have q23:=tellT hp 0 3 rfl rfl rfl;change OpGoal _ _ _ f wn Ext _;obtain⟨u,hu,ho⟩:=q23;simp only[OpGoal];go_simp;exact⟨_,rfl,Ext.refl _,ho⟩
    ·intro f wn hE hp;have hS:=hE.size;have q23:=tellT hp 0 3 rfl rfl rfl;change OpGoal _ _ _ f wn Ext _;obtain⟨u,hu,ho⟩:=q23;simp only[OpGoal];go_simp;exact⟨_,rfl,Ext.refl _,rfl⟩
    ·intro f wn hE hp;have hS:=hE.size;change OpGoal _ _ _ f wn (fun a b=>b=a.alloc _) _;exact og_alloc (P:=Tryz.prog) _ _ (.agg #[.bool false,.slice none 0 0,.slice none 0 0]) rfl rfl (by kernel_rfl) rfl
    ·intro f wn hE hp;have hS:=hE.size;have q27:=tellT hp 1 4 rfl rfl rfl;intro g old hfa hSg hbx hsz hno;change OpGoal _ _ _ f wn (Chg g) _;obtain⟨cells,hv,hcs,hc1,hcn⟩:=FrQ.parts q27;exact og_storeT (P:=Tryz.prog) (PT.frQ (1 / leadA m)) 3 _ _ _ g _ old cells rfl rfl hfa hv hbx (by rw[hcs];kernel_rfl) hsz hcs hc1 hSg (show 34≠172 by decide) (show 34≠3 by decide) hno rfl (hv▸q27)
    ·intro f wn hE hp;have hS:=hE.size
     have q28:f 5= .int .i64 0:=tellT hp 0 5 rfl rfl rfl
     change OpGoal _ _ _ f wn Ext _;simp only[OpGoal];go_simp;exact⟨_,rfl,Ext.refl _,rfl⟩
   ·intro f wB hE hp hal;obtain⟨ga4,ca4,fa4,la4,ba4,na4,pa4⟩:=hal ⟨6,34,3,#[.bool false,.slice none 0 0,.slice none 0 0]⟩ (by simp) (by decide)
    dsimp only at fa4 la4 ba4 na4
    have za4:=pa4 ⟨7,⟨6,34,3,#[.bool false,.slice none 0 0,.slice none 0 0]⟩,PT.frQ (1 / leadA m)⟩ (by simp) (by show 7<9;decide) rfl rfl;clear pa4
    have q5:f 8= .int .i64 0:=endT hp 8 (by decide) rfl rfl
    try simp only[q5]
    clear hp hal;simp only[fa4];obtain⟨b4,a41,n41,c41,a42,n42,c42,hv4,hq4⟩:=FrQ.opn (show FrQ wA.heap.size wB (.agg ca4) (1 / leadA m)from za4)
    cases hv4
    have HQ4:=Lib.hid (hq4.isR (HSZ.out.2.1 HNE.out) (show K≤LIM by omega));have EB:=EA.trans hE;have PB:=PA.ext hE;have ZB:=ZA.ext hE;have hzB:=ZB.lt;have TB:=Lib.hid (TA.out.ext hE);have XB:=Lib.hid (XA.out.ext hE);clear za4 hq4 hE EA PA ZA RA QA TA XA;go_wp2_with fail;refine wpP [⟨11,(w.heap.size+1),36,PP.cnO (2*K) (s,scV (1 / leadA m) m,1 / leadA m*x)⟩] [PP.val (.pointer (some ⟨w.heap.size,0,none⟩)),PP.val (.int .i64 s),PP.val (.agg #[.bool b4,.slice a41 n41 c41,.slice a42 n42 c42]),PP.val (.pointer (some ⟨w.heap.size,1,none⟩)),PP.val (cm),PP.tO (2*K) (scV (1 / leadA m) m),PP.val (.agg #[.bool b4,.slice a41 n41 c41,.slice a42 n42 c42]),PP.val (.pointer (some ⟨w.heap.size,2,none⟩)),PP.val (.agg #[.bool b',.slice a1' n1' c1',.slice a2' n2' c2']),PP.frQ (1 / leadA m*x),PP.cnO (2*K) (s,scV (1 / leadA m) m,1 / leadA m*x),PP.any] [] [11,10,9,8,7,6,5,4,3,2,1,0] ?_ ?_ ?_ ?_ ?_
    ·intro x hx;simp only[List.mem_singleton]at hx;subst hx;exact⟨by show(w.heap.size+1)<wB.heap.size;omega,rfl⟩
    ·intro x hx;simp only[List.mem_singleton]at hx;subst hx;rfl
    ·intro x hx y hy h;simp only[List.mem_singleton]at hx hy;subst hx hy;exact absurd rfl h
    ·refine⟨?_,?_,?_,?_,?_,?_,?_,?_,?_,?_,?_,?_,trivial⟩
     ·intro f w2 hG hp hl;simp only[OpGoal];go_simp;exact⟨_,rfl,Ext.refl _,rfl⟩
     ·intro f w2 hG hp hl;have hE:Ext wB w2:=hG;have q29:=tE hp 0 0 rfl rfl rfl;have hcell:=(PB.ext hE).cell 0;simp only[OpGoal];go_simp;exact⟨_,rfl,Ext.refl _,rfl⟩
     ·intro f w2 hG hp hl;have hE:Ext wB w2:=hG;change OpGoal _ _ _ f w2 Ext _;exact og_load (P:=Tryz.prog) _ _ ga4 _ _ _ rfl rfl rfl (ba4.ext hE) Tryz.underlying34 rfl (by kernel_rfl) rfl
     ·intro f w2 hG hp hl;simp only[OpGoal];go_simp;exact⟨_,rfl,Ext.refl _,rfl⟩
     ·intro f w2 hG hp hl;have hE:Ext wB w2:=hG;have q32:=tE hp 0 3 rfl rfl rfl;have hcell:=(PB.ext hE).cell 1;simp only[OpGoal];go_simp;exact⟨_,rfl,Ext.refl _,rfl⟩
     ·intro f w2 hG hp hl;have hE:Ext wB w2:=hG;have hS:=hE.size;have q31:=tE hp 0 2 rfl rfl rfl;have q33:=tE hp 1 4 rfl rfl rfl;change OpGoal _ _ _ f w2 Ext _;refine oC #[f 2,f 4] Tryz.func141 rfl rfl ?_;rw[q31,q33];refine(vscale_calls K K (2*K) _ _ (1 / leadA m) m _ (HQ4.out.ext hE) ((TB.out.ext hE).tl (by omega)) (by omega) HMLN.out HBG.out).mono ?_;rintro e w' ⟨v',rfl,h1,h2⟩;rw[List.nil_append,mkV_nfs HSN.out]at h1;exact⟨v',rfl,h2,(h1.to (HSZ.out.2.2 HNE.out)).mono hS⟩
     ·intro f w2 hG hp hl;have hE:Ext wB w2:=hG;change OpGoal _ _ _ f w2 Ext _;exact og_load (P:=Tryz.prog) _ _ ga4 _ _ _ rfl rfl rfl (ba4.ext hE) Tryz.underlying34 rfl (by kernel_rfl) rfl
     ·intro f w2 hG hp hl;simp only[OpGoal];go_simp;exact⟨_,rfl,Ext.refl _,rfl⟩
     ·intro f w2 hG hp hl;have hE:Ext wB w2:=hG;have q36:=tE hp 0 7 rfl rfl rfl;have hbx:=PB.ext hE;have hcell0:=hbx.cell 0;have hcell1:=hbx.cell 1;have hcell2:=hbx.cell 2;have hcell3:=hbx.cell 3;have hcell4:=hbx.cell 4;simp only[OpGoal];go_simp;exact⟨_,rfl,Ext.refl _,rfl⟩
     ·intro f w2 hG hp hl;have hE:Ext wB w2:=hG;have hS:=hE.size;have q35:=tE hp 0 6 rfl rfl rfl;have q37:=tE hp 1 8 rfl rfl rfl;change OpGoal _ _ _ f w2 Ext _;refine oC #[f 6,f 8] Tryz.func83 rfl rfl ?_;rw[q35,q37];refine(rmul_calls _ _ (1 / leadA m) x K K _ (HQ4.out.ext hE) ((XB.out.ext hE).isR HXS.out (by omega)) (by omega)).mono ?_;rintro e w' ⟨v',rfl,h1, -,h2⟩;exact⟨v',rfl,h2,h1.mono hS⟩
     ·intro f w2 hG hp hl;have hE:Ext wB w2:=hG;have q30:=tE hp 0 1 rfl rfl rfl;have q34:=tellV hp 1 5 rfl rfl (fun _=>hE);have q38:=tellV hp 2 9 rfl rfl (fun _=>hE);obtain⟨ad,cap,hv⟩:=TO.val q34;obtain⟨s',t',hv2,hn2,hm2⟩:=q38;obtain⟨ad1,cap1,hv3⟩:=FrN.slice hn2;obtain⟨ad2,cap2,hv4⟩:=FrN.slice hm2;subst hv3 hv4;simp only[OpGoal];go_simp;exact⟨_,rfl,Ext.refl _,_,_,_,_,_,_,_,_,_,_,rfl,hv▸q34,⟨_,_,rfl,hn2,hm2⟩,HMS.out⟩
     ·intro f w2 hG hp hl;have hE:Ext wB w2:=hG;have hS:=hE.size;have q39:=tellV hp 0 10 rfl rfl (fun _=>hE);intro hg0;change OpGoal _ _ _ f w2 (Chg _) _;obtain⟨a',n',p',b',a1',n1',c1',a2',n2',c2',hv,ht,hq,hz⟩:=q39;exact og_store (P:=Tryz.prog) _ _ _ (w.heap.size+1) _ _ _ (PP.cnO (2*K) (s,scV (1 / leadA m) m,1 / leadA m*x):PP _).p rfl rfl rfl hv (show Bx 36 w2 _ _ from hg0.trans ZB) (by kernel_rfl) rfl (all5 rfl rfl rfl rfl rfl) (fun w' h=>⟨a',n',p',b',a1',n1',c1',a2',n2',c2',rfl,ht.chg h (by omega),hq.chg h (by omega),hz⟩)
    ·intro f w2 hG hp;obtain⟨cs0,hbx0,hz0⟩:∃cs,Bx 36 w2 (w.heap.size+1) cs∧(PP.cnO (2*K) (s,scV (1 / leadA m) m,1 / leadA m*x):PP wB.heap.size).p (.agg cs) w2:=endS hp 11 (by decide);clear hp;have hz1:=hz0.mono (show w.heap.size≤_ by omega);obtain⟨a',n',p',b',a1',n1',c1',a2',n2',c2',hvv,hnn,hmm,hzz⟩:=hz0
     cases hvv
     go_wp2;refine ret_box 2 36 (w.heap.size+1) 36 _ _ (by kernel_rfl) rfl hbx0 Tryz.underlying36 rfl (by kernel_rfl) rfl ?_;exact⟨_,rfl,by unfold scaleC;rw[←HM.out];exact hz1,EB.stepS hG (by simp)⟩
  ·have hsg0:¬q.num.sign<0:=fun h=>hq0 ((sign_neg q).1 h)
   obtain⟨sg,hsgv⟩:∃sg,sg=q.num.sign:=⟨_,rfl⟩;rw[←hsgv]at hsg0 ⊢;have hsg:¬sg<0:=hsg0
   have hsg1:decide (sg<0)=false:=decide_eq_false hsg0
   clear hsgv hsg0
   have HLQ:Hid (leadA m=q):=Lib.hid (by rw[HLD.out,if_neg hq0])
   obtain⟨wA,hwA⟩:∃wA,wA=w6:=⟨_,rfl⟩;have hwl:=X4.size;have hzl:=BQ4.lt;obtain⟨g3,hg⟩:∃g3,g3=w4.heap.size:=⟨_,rfl⟩;have RA:=b5.ext e6;rw[←hg,←hwA]at RA;have hl5:=h46.size;rw[←hwA]at h46;have EA:=X4.trans h46;have PA:=b4.ext h46;have ZA:=BQ4.ext h46;have hzA:=ZA.lt;obtain⟨b3,hb3⟩:∃b3,b3=tb:=⟨_,rfl⟩;obtain⟨a31,ha31⟩:∃y,y=ta1:=⟨_,rfl⟩;obtain⟨n31,hn31⟩:∃y,y=tn1:=⟨_,rfl⟩;obtain⟨c31,hc31⟩:∃y,y=tc1:=⟨_,rfl⟩;obtain⟨a32,ha32⟩:∃y,y=ta2:=⟨_,rfl⟩;obtain⟨n32,hn32⟩:∃y,y=tn2:=⟨_,rfl⟩;obtain⟨c32,hc32⟩:∃y,y=tc2:=⟨_,rfl⟩
   have QA:=Lib.hid (show FrQ (w.heap.size+2) wA (.agg #[.bool b3,.slice a31 n31 c31,.slice a32 n32 c32]) (leadA m)by
    rw[HLQ.out,hb3,ha31,hn31,hc31,ha32,hn32,hc32]
    exact HQF.out.1.ext h46)
   have TA:=Lib.hid (show TO (w.heap.size+2) K wA cm m by
    rw[hcm,HNN.out]
    exact HT4.out.ext h46)
   have XA:=Lib.hid (HR4.out.ext h46);rw[←hcm]at PA;rw[←hb3,←ha31,←hn31,←hc31,←ha32,←hn32,←hc32]at RA;clear hb3 ha31 hn31 hc31 ha32 hn32 hc32 h46 e5 e6 b4 b5 BQ4 X4 HQF hq0;go_wp2_with fail;rw[←hwA,←hg];clear hwA;refine wp_region_alt [⟨6,34,3,#[.bool false,.slice none 0 0,.slice none 0 0]⟩] [⟨7,⟨6,34,3,#[.bool false,.slice none 0 0,.slice none 0 0]⟩,PT.frQ (1 / leadA m)⟩] [PT.frQ ((1:Int):Rat),PT.val (.agg #[.bool b3,.slice a31 n31 c31,.slice a32 n32 c32]),PT.tupQ (1 / leadA m),PT.tupQ (1 / leadA m),PT.frQ (1 / leadA m),PT.val (.int .i64 0),PT.any,PT.any,PT.val (.int .i64 0)]
    (by kernel_rfl) (by kernel_rfl) (fun f=>(by simp only[fillR,fillL,List.setIfInBounds_toArray,List.set_cons_succ,List.set_cons_zero,Nat.reduceAdd];rfl)) ?_ ?_ ?_ ?_ ?_
   ·intro x hx;simp only[List.mem_cons,List.not_mem_nil,or_false]at hx;rcases hx with rfl
    ·exact⟨rfl,rfl,by decide,by decide,rfl,rfl⟩
   ·intro x hx;simp only[List.mem_cons,List.not_mem_nil,or_false]at hx;rcases hx with rfl<;>exact ⟨rfl,rfl,by simp⟩
   ·intro x hx y hy h;simp only[List.mem_cons,List.not_mem_nil,or_false]at hx hy;rcases hx with rfl<;>rcases hy with rfl
    ·exact absurd rfl h
   ·refine⟨?_,?_,?_,?_,?_,?_,?_,?_,?_,trivial⟩
    ·intro f wn hE hp;have hS:=hE.size;change OpGoal _ _ _ f wn Ext _;refine oC #[.int .i64 1] Tryz.func78 rfl rfl ?_;refine(rwhole_calls 1 _ (by omega) (by omega)).mono ?_;rintro e w' ⟨v',rfl,h1,h2⟩;exact⟨v',rfl,h2,h1.mono hS⟩
    ·intro f wn hE hp;have hS:=hE.size;change OpGoal _ _ _ f wn Ext _;exact og_load (P:=Tryz.prog) _ _ g3 _ _ _ rfl rfl rfl (RA.ext hE) Tryz.underlying34 rfl (by kernel_rfl) rfl
    ·intro f wn hE hp;have hS:=hE.size;have q24:=tellT hp 0 0 rfl rfl rfl
     have q25:f 1= .agg #[.bool b3,.slice a31 n31 c31,.slice a32 n32 c32]:=tellT hp 1 1 rfl rfl rfl
     change OpGoal _ _ _ f wn Ext _;refine oC #[f 0,f 1] Tryz.func140 rfl rfl ?_;rw[q25];refine(rdiv_calls _ _ ((1:Int):Rat) (leadA m) 1 K _ (q24.isR szQ_int1 (by omega)) ((QA.out.ext hE).isR (HSZ.out.1 HNE.out) (by omega)) HLZ.out (by omega)).mono ?_;rintro e w' ⟨v',rfl,h1, -,h2⟩;exact⟨_,rfl,h2,v',rfl,h1.mono hS⟩
    ·intro f wn hE hp;have hS:=hE.size;have q26:=tellT hp 0 2 rfl rfl rfl;change OpGoal _ _ _ f wn Ext _;exact⟨_,rfl,Ext.refl _,q26⟩
    ·intro f wn hE hp;have hS:=hE.size;have q23:=tellT hp 0 3 rfl rfl rfl;change OpGoal _ _ _ f wn Ext _;obtain⟨u,hu,ho⟩:=q23;simp only[OpGoal];go_simp;exact⟨_,rfl,Ext.refl _,ho⟩
    ·intro f wn hE hp;have hS:=hE.size;have q23:=tellT hp 0 3 rfl rfl rfl;change OpGoal _ _ _ f wn Ext _;obtain⟨u,hu,ho⟩:=q23;simp only[OpGoal];go_simp;exact⟨_,rfl,Ext.refl _,rfl⟩
    ·intro f wn hE hp;have hS:=hE.size;change OpGoal _ _ _ f wn (fun a b=>b=a.alloc _) _;exact og_alloc (P:=Tryz.prog) _ _ (.agg #[.bool false,.slice none 0 0,.slice none 0 0]) rfl rfl (by kernel_rfl) rfl
    ·intro f wn hE hp;have hS:=hE.size;have q27:=tellT hp 1 4 rfl rfl rfl;intro g old hfa hSg hbx hsz hno;change OpGoal _ _ _ f wn (Chg g) _;obtain⟨cells,hv,hcs,hc1,hcn⟩:=FrQ.parts q27;exact og_storeT (P:=Tryz.prog) (PT.frQ (1 / leadA m)) 3 _ _ _ g _ old cells rfl rfl hfa hv hbx (by rw[hcs];kernel_rfl) hsz hcs hc1 hSg (show 34≠172 by decide) (show 34≠3 by decide) hno rfl (hv▸q27)
    ·intro f wn hE hp;have hS:=hE.size
     have q28:f 5= .int .i64 0:=tellT hp 0 5 rfl rfl rfl
     change OpGoal _ _ _ f wn Ext _;simp only[OpGoal];go_simp;exact⟨_,rfl,Ext.refl _,rfl⟩
   ·intro f wB hE hp hal;obtain⟨ga4,ca4,fa4,la4,ba4,na4,pa4⟩:=hal ⟨6,34,3,#[.bool false,.slice none 0 0,.slice none 0 0]⟩ (by simp) (by decide)
    dsimp only at fa4 la4 ba4 na4
    have za4:=pa4 ⟨7,⟨6,34,3,#[.bool false,.slice none 0 0,.slice none 0 0]⟩,PT.frQ (1 / leadA m)⟩ (by simp) (by show 7<9;decide) rfl rfl;clear pa4
    have q5:f 8= .int .i64 0:=endT hp 8 (by decide) rfl rfl
    try simp only[q5]
    clear hp hal;simp only[fa4];obtain⟨b4,a41,n41,c41,a42,n42,c42,hv4,hq4⟩:=FrQ.opn (show FrQ wA.heap.size wB (.agg ca4) (1 / leadA m)from za4)
    cases hv4
    have HQ4:=Lib.hid (hq4.isR (HSZ.out.2.1 HNE.out) (show K≤LIM by omega));have EB:=EA.trans hE;have PB:=PA.ext hE;have ZB:=ZA.ext hE;have hzB:=ZB.lt;have TB:=Lib.hid (TA.out.ext hE);have XB:=Lib.hid (XA.out.ext hE);clear za4 hq4 hE EA PA ZA RA QA TA XA;go_wp2_with fail;refine wpP [⟨11,(w.heap.size+1),36,PP.cnO (2*K) (s,scV (1 / leadA m) m,1 / leadA m*x)⟩] [PP.val (.pointer (some ⟨w.heap.size,0,none⟩)),PP.val (.int .i64 s),PP.val (.agg #[.bool b4,.slice a41 n41 c41,.slice a42 n42 c42]),PP.val (.pointer (some ⟨w.heap.size,1,none⟩)),PP.val (cm),PP.tO (2*K) (scV (1 / leadA m) m),PP.val (.agg #[.bool b4,.slice a41 n41 c41,.slice a42 n42 c42]),PP.val (.pointer (some ⟨w.heap.size,2,none⟩)),PP.val (.agg #[.bool b',.slice a1' n1' c1',.slice a2' n2' c2']),PP.frQ (1 / leadA m*x),PP.cnO (2*K) (s,scV (1 / leadA m) m,1 / leadA m*x),PP.any] [] [11,10,9,8,7,6,5,4,3,2,1,0] ?_ ?_ ?_ ?_ ?_
    ·intro x hx;simp only[List.mem_singleton]at hx;subst hx;exact⟨by show(w.heap.size+1)<wB.heap.size;omega,rfl⟩
    ·intro x hx;simp only[List.mem_singleton]at hx;subst hx;rfl
    ·intro x hx y hy h;simp only[List.mem_singleton]at hx hy;subst hx hy;exact absurd rfl h
    ·refine⟨?_,?_,?_,?_,?_,?_,?_,?_,?_,?_,?_,?_,trivial⟩
     ·intro f w2 hG hp hl;simp only[OpGoal];go_simp;exact⟨_,rfl,Ext.refl _,rfl⟩
     ·intro f w2 hG hp hl;have hE:Ext wB w2:=hG;have q29:=tE hp 0 0 rfl rfl rfl;have hcell:=(PB.ext hE).cell 0;simp only[OpGoal];go_simp;exact⟨_,rfl,Ext.refl _,rfl⟩
     ·intro f w2 hG hp hl;have hE:Ext wB w2:=hG;change OpGoal _ _ _ f w2 Ext _;exact og_load (P:=Tryz.prog) _ _ ga4 _ _ _ rfl rfl rfl (ba4.ext hE) Tryz.underlying34 rfl (by kernel_rfl) rfl
     ·intro f w2 hG hp hl;simp only[OpGoal];go_simp;exact⟨_,rfl,Ext.refl _,rfl⟩
     ·intro f w2 hG hp hl;have hE:Ext wB w2:=hG;have q32:=tE hp 0 3 rfl rfl rfl;have hcell:=(PB.ext hE).cell 1;simp only[OpGoal];go_simp;exact⟨_,rfl,Ext.refl _,rfl⟩
     ·intro f w2 hG hp hl;have hE:Ext wB w2:=hG;have hS:=hE.size;have q31:=tE hp 0 2 rfl rfl rfl;have q33:=tE hp 1 4 rfl rfl rfl;change OpGoal _ _ _ f w2 Ext _;refine oC #[f 2,f 4] Tryz.func141 rfl rfl ?_;rw[q31,q33];refine(vscale_calls K K (2*K) _ _ (1 / leadA m) m _ (HQ4.out.ext hE) ((TB.out.ext hE).tl (by omega)) (by omega) HMLN.out HBG.out).mono ?_;rintro e w' ⟨v',rfl,h1,h2⟩;rw[List.nil_append,mkV_nfs HSN.out]at h1;exact⟨v',rfl,h2,(h1.to (HSZ.out.2.2 HNE.out)).mono hS⟩
     ·intro f w2 hG hp hl;have hE:Ext wB w2:=hG;change OpGoal _ _ _ f w2 Ext _;exact og_load (P:=Tryz.prog) _ _ ga4 _ _ _ rfl rfl rfl (ba4.ext hE) Tryz.underlying34 rfl (by kernel_rfl) rfl
     ·intro f w2 hG hp hl;simp only[OpGoal];go_simp;exact⟨_,rfl,Ext.refl _,rfl⟩
     ·intro f w2 hG hp hl;have hE:Ext wB w2:=hG;have q36:=tE hp 0 7 rfl rfl rfl;have hbx:=PB.ext hE;have hcell0:=hbx.cell 0;have hcell1:=hbx.cell 1;have hcell2:=hbx.cell 2;have hcell3:=hbx.cell 3;have hcell4:=hbx.cell 4;simp only[OpGoal];go_simp;exact⟨_,rfl,Ext.refl _,rfl⟩
     ·intro f w2 hG hp hl;have hE:Ext wB w2:=hG;have hS:=hE.size;have q35:=tE hp 0 6 rfl rfl rfl;have q37:=tE hp 1 8 rfl rfl rfl;change OpGoal _ _ _ f w2 Ext _;refine oC #[f 6,f 8] Tryz.func83 rfl rfl ?_;rw[q35,q37];refine(rmul_calls _ _ (1 / leadA m) x K K _ (HQ4.out.ext hE) ((XB.out.ext hE).isR HXS.out (by omega)) (by omega)).mono ?_;rintro e w' ⟨v',rfl,h1, -,h2⟩;exact⟨v',rfl,h2,h1.mono hS⟩
     ·intro f w2 hG hp hl;have hE:Ext wB w2:=hG;have q30:=tE hp 0 1 rfl rfl rfl;have q34:=tellV hp 1 5 rfl rfl (fun _=>hE);have q38:=tellV hp 2 9 rfl rfl (fun _=>hE);obtain⟨ad,cap,hv⟩:=TO.val q34;obtain⟨s',t',hv2,hn2,hm2⟩:=q38;obtain⟨ad1,cap1,hv3⟩:=FrN.slice hn2;obtain⟨ad2,cap2,hv4⟩:=FrN.slice hm2;subst hv3 hv4;simp only[OpGoal];go_simp;exact⟨_,rfl,Ext.refl _,_,_,_,_,_,_,_,_,_,_,rfl,hv▸q34,⟨_,_,rfl,hn2,hm2⟩,HMS.out⟩
     ·intro f w2 hG hp hl;have hE:Ext wB w2:=hG;have hS:=hE.size;have q39:=tellV hp 0 10 rfl rfl (fun _=>hE);intro hg0;change OpGoal _ _ _ f w2 (Chg _) _;obtain⟨a',n',p',b',a1',n1',c1',a2',n2',c2',hv,ht,hq,hz⟩:=q39;exact og_store (P:=Tryz.prog) _ _ _ (w.heap.size+1) _ _ _ (PP.cnO (2*K) (s,scV (1 / leadA m) m,1 / leadA m*x):PP _).p rfl rfl rfl hv (show Bx 36 w2 _ _ from hg0.trans ZB) (by kernel_rfl) rfl (all5 rfl rfl rfl rfl rfl) (fun w' h=>⟨a',n',p',b',a1',n1',c1',a2',n2',c2',rfl,ht.chg h (by omega),hq.chg h (by omega),hz⟩)
    ·intro f w2 hG hp;obtain⟨cs0,hbx0,hz0⟩:∃cs,Bx 36 w2 (w.heap.size+1) cs∧(PP.cnO (2*K) (s,scV (1 / leadA m) m,1 / leadA m*x):PP wB.heap.size).p (.agg cs) w2:=endS hp 11 (by decide);clear hp;have hz1:=hz0.mono (show w.heap.size≤_ by omega);obtain⟨a',n',p',b',a1',n1',c1',a2',n2',c2',hvv,hnn,hmm,hzz⟩:=hz0
     cases hvv
     go_wp2;refine ret_box 2 36 (w.heap.size+1) 36 _ _ (by kernel_rfl) rfl hbx0 Tryz.underlying36 rfl (by kernel_rfl) rfl ?_;exact⟨_,rfl,by unfold scaleC;rw[←HM.out];exact hz1,EB.stepS hG (by simp)⟩
theorem FrQd.chgB{B0:Nat}{w w':World}{v:Value}{q:Rat}{g:Nat}{t:TypeId}{cs:Array Value}(h:FrQd B0 w v q)(hc:Chg g w w')(hb:Bx t w g cs)(ht:t≠3):FrQd B0 w' v q:=by
 obtain⟨s,t,hst,hs,ht'⟩:=h;exact⟨s,t,hst,FrL.chgB hs hc hb ht,FrL.chgB ht' hc hb ht⟩
set_option maxHeartbeats 4000000 in
theorem rqneg3f_calls(B:Nat)(v:Value)(q:Rat)(w:World)(hv:FrQd B w v q)(hB:B≤w.heap.size)(hsz:szD q≤68719476736):
  Calls Tryz.prog 142 #[v] w fun e w'=>∃v',e= .returned v'∧FrQd B w' v' (-q)∧Ext w w':=by
 obtain⟨s,t,rfl,hs0,ht0⟩:=hv;have hs:=hs0.isC;have ht:=ht0.isC;have HT0:=Lib.hid ht0;clear hs0 ht0;have hk:=szD_le hsz;have hZ:CZ w (.agg #[.bool (decide (q.num<0)),s]) q.num:=⟨s,rfl,hs⟩;obtain⟨adt,capt,rfl⟩:=ht.slice
 go_enter Tryz.func142,Tryz.ntmps142
 go_wp2_with fail;obtain⟨w1,hw1,e1,b1,b2,s1⟩:=alloc2 w #[.bool (decide (q.num<0)),s,.slice adt (sz TK q.den) capt] #[.bool false,.slice none 0 0,.slice none 0 0] 81 81;rw[←hw1];clear hw1;refine wpP [⟨6,(w.heap.size+1),81,PP.zt (-q.num) (.slice adt (sz TK q.den) capt)⟩] [PP.val (.pointer (some ⟨w.heap.size,0,none⟩)),PP.val (.agg #[.bool (decide (q.num<0)),s]),PP.frZd (-q.num),PP.val (.pointer (some ⟨w.heap.size,2,none⟩)),PP.val (.slice adt (sz TK q.den) capt),PP.zt (-q.num) (.slice adt (sz TK q.den) capt),PP.any] [] [6,5,4,3,2,1,0] ?_ ?_ ?_ ?_ ?_
 ·intro x hx;simp only[List.mem_singleton]at hx;subst hx;exact⟨by show(w.heap.size+1)<w1.heap.size;omega,rfl⟩
 ·intro x hx;simp only[List.mem_singleton]at hx;subst hx;rfl
 ·intro x hx y hy h;simp only[List.mem_singleton]at hx hy;subst hx hy;exact absurd rfl h
 ·refine⟨?_,?_,?_,?_,?_,?_,?_,trivial⟩
  ·intro f w2 hG hp hl;simp only[OpGoal];go_simp;exact⟨_,rfl,Ext.refl _,rfl⟩
  ·intro f w2 hG hp hl;have hE:Ext w1 w2:=hG;have q3:=tE hp 0 0 rfl rfl rfl;have hbx:=b1.ext hE;have hcell0:=hbx.cell 0;have hcell1:=hbx.cell 1;have hcell2:=hbx.cell 2;simp only[OpGoal];go_simp;exact⟨_,rfl,Ext.refl _,rfl⟩
  ·intro f w2 hG hp hl;have hE:Ext w1 w2:=hG;have hS:=hE.size;have q4:=tE hp 0 1 rfl rfl rfl;change OpGoal _ _ _ f w2 Ext _;refine oC #[f 1] Tryz.func172 rfl rfl ?_;rw[q4];refine(zneg2_calls _ q.num _ (hZ.ext (e1.trans hE)) hk.1).mono ?_;rintro e w' ⟨v',rfl,h1,h2⟩;exact⟨v',rfl,h2,h1.mono hS⟩
  ·intro f w2 hG hp hl;simp only[OpGoal];go_simp;exact⟨_,rfl,Ext.refl _,rfl⟩
  ·intro f w2 hG hp hl;have hE:Ext w1 w2:=hG;have q6:=tE hp 0 3 rfl rfl rfl;have hcell:=(b1.ext hE).cell 2;simp only[OpGoal];go_simp;exact⟨_,rfl,Ext.refl _,rfl⟩
  ·intro f w2 hG hp hl;have hE:Ext w1 w2:=hG;have q5:=tellV hp 0 2 rfl rfl (fun _=>hE);have q7:=tE hp 1 4 rfl rfl rfl;obtain⟨s',hv,hn⟩:=q5;obtain⟨ad,cap,rfl⟩:=hn.slice;obtain⟨bb,hbb⟩:∃bb,bb=decide (-q.num<0):=⟨_,rfl⟩;rw[←hbb]at hv;have Hbb:=Lib.hid hbb;clear hbb
   generalize sz TK (-q.num).natAbs=ll at*
   simp only[OpGoal];go_simp;exact⟨_,rfl,Ext.refl _,_,by rw[Hbb.out],hn⟩
  ·intro f w2 hG hp hl;have hE:Ext w1 w2:=hG;have hS:=hE.size;have q8:=tellV hp 0 5 rfl rfl (fun _=>hE);intro hg0;change OpGoal _ _ _ f w2 (Chg _) _;obtain⟨s',hv,hn⟩:=q8;exact og_store (P:=Tryz.prog) _ _ _ (w.heap.size+1) _ _ _ (PP.zt _ _:PP _).p rfl rfl rfl hv (show Bx 81 w2 _ _ from hg0.trans b2) (by kernel_rfl) rfl (all3 rfl hn.oneCell rfl) (fun w' h=>⟨s',rfl,hn.chg h (by omega)⟩)
 ·intro f w2 hG hp;obtain⟨cs0,hbx0,hz0⟩:∃cs,Bx 81 w2 (w.heap.size+1) cs∧(PP.zt (-q.num) (.slice adt (sz TK q.den) capt):PP w1.heap.size).p (.agg cs) w2:=endS hp 6 (by decide);clear hp;obtain⟨s',hv,hn⟩:=hz0
  cases hv
  go_wp2;refine ret_box 2 81 (w.heap.size+1) 81 _ _ (by kernel_rfl) rfl hbx0 Tryz.underlying81 rfl (by kernel_rfl) rfl ?_;exact⟨_,rfl,⟨_,_,rfl,hn.mono (by omega),HT0.out.ext (e1.stepS hG (by simp))⟩,e1.stepS hG (by simp)⟩
theorem laidS_next{L:List Value}{p:Nat}{x:Value}{ys:List Value}(hx:L[p]? =some x):laidS L (p+1) ys=laidS L p (x::ys):=by
 unfold laidS;obtain⟨hl,hv⟩:=List.getElem?_eq_some_iff.1 hx;rw[List.take_add_one,hx,List.length_cons,show p+1+ys.length=p+(ys.length+1)by omega]
 simp
def TsF(B g:Nat)(cur:List Value)(p:Nat)(c:Int)(q:Rat)(w:World):Prop:=∃t:TmC,t.c=c∧FrQ B w (ratv t) q∧Bx 96 w g (laidS cur p (tmv t).cells.toList).toArray
theorem TsF.ext{B g:Nat}{cur:List Value}{p:Nat}{c:Int}{q:Rat}{w w':World}(h:TsF B g cur p c q w)(he:Ext w w'):TsF B g cur p c q w':=by
 obtain⟨t,h1,h2,h3⟩:=h;exact⟨t,h1,h2.ext he,h3.ext he⟩
theorem TsF.chg{B g g':Nat}{cur:List Value}{p:Nat}{c:Int}{q:Rat}{w w':World}(h:TsF B g cur p c q w)(he:Chg g' w w')(hne:g'≠g)(hg:g'<B):TsF B g cur p c q w':=by
 obtain⟨t,h1,h2,h3⟩:=h;exact⟨t,h1,h2.chg he hg,h3.chg he (by omega)⟩
theorem TO.put{B S k n cap i g:Nat}{w w':World}{m:List (Int×Rat)}{c:Int}{q q':Rat}{cur:List Value}(h:TO B k w (.slice (some ⟨g,0,none⟩) n cap) m)(hi:m[i]? =some (c,q))(hcur:Bx 96 w g cur.toArray)(hc:Chg g w w')(hF:TsF S g cur (i*4) c q' w')(hS:B≤S)(hq:szQ q'≤k):TO B k w' (.slice (some ⟨g,0,none⟩) n cap) (m.set i (c,q')):=by
 obtain⟨ts,h1,h2,h3⟩:=h;obtain⟨t,t1,t2,t3⟩:=hF;have hlt:=(List.getElem?_eq_some_iff.1 hi).1;refine⟨ts.set i t,by rw[List.length_set,List.length_set,h1],?_,fun j u x hu hx=> ?_⟩
 ·rw[List.map_set]
  refine h2.set (strN_tmv [t]) (by rw[List.length_map,h1];exact hlt) rfl fun rest hb=> ?_
  have he:flatS (ts.map tmv)++rest=cur:=by
   unfold Bx at hb hcur;rw[hb]at hcur
   simpa using hcur
  rw[he];exact t3
 ·by_cases hij:i=j
  ·subst hij;rw[List.getElem?_set_self (by omega)]at hu;rw[List.getElem?_set_self hlt]at hx
   cases hu
   cases hx
   exact⟨t1,t2.mono hS,hq⟩
  ·rw[List.getElem?_set_ne hij]at hu hx;obtain⟨k1,k2,k3⟩:=h3 j u x hu hx;exact⟨k1,k2.chgB hc hcur (by decide),k3⟩
theorem TO.cur{B k n cap g:Nat}{w:World}{m:List (Int×Rat)}(h:TO B k w (.slice (some ⟨g,0,none⟩) n cap) m)(h0:0<m.length):∃cur:List Value,Bx 96 w g cur.toArray∧m.length*4≤cur.length∧g<w.heap.size∧B≤g∧n=m.length∧∀(i:Nat) (x:Int×Rat),m[i]? =some x→cur[i*4]? =some (.int .i64 x.1):=by
 obtain⟨ts,h1,h2,h3⟩:=h
 have hn:n=m.length:=by
  obtain⟨ad,cp,hv⟩:=TO.val ⟨ts,h1,h2,h3⟩
  cases hv
  rfl
 obtain⟨g',cap',rest,k1,k2,k3,k4,k5,k6⟩:=h2.hold (by rw[List.length_map];omega)
 cases k1
 have hl:(flatS (ts.map tmv)).length=m.length*4:=by rw[flatS_len (strN_tmv _).size,List.length_map,h1]
 refine⟨_,k6,by rw[List.length_append,hl];omega,k6.lt,k2,hn,fun i x hi=> ?_⟩;have hlt:=(List.getElem?_eq_some_iff.1 hi).1;obtain⟨t,ht⟩:∃t,ts[i]? =some t:=⟨_,List.getElem?_eq_getElem (by omega)⟩;rw[List.getElem?_append_left (by omega)]
 have h5:(ts.map tmv)[i]? =some (tmv t):=by rw[List.getElem?_map,ht];rfl
 have:=flatS_get (by omega) (strN_tmv ts).size h5 0 (by omega)
 rw[Nat.add_zero]at this;rw[this,←(h3 i t x ht hi).1]
 rfl
def halfV(f:Rat)(m:List (Int×Rat))(i:Nat):List (Int×Rat):=(scV f m).take i++m.drop i
theorem halfV_len(f:Rat)(m:List (Int×Rat))(i:Nat):(halfV f m i).length=m.length:=by
 unfold halfV scV;rw[List.length_append,List.length_take,List.length_map,List.length_drop]
 omega
theorem halfV_end(f:Rat)(m:List (Int×Rat)):halfV f m m.length=scV f m:=by
 unfold halfV;rw[List.drop_length,List.append_nil,List.take_of_length_le (by unfold scV;simp)]
theorem halfV_at{f:Rat}{m:List (Int×Rat)}{i:Nat}{x:Int×Rat}(h:m[i]? =some x):(halfV f m i)[i]? =some x∧(halfV f m i).set i (x.1,f*x.2)=halfV f m (i+1):=by
 have hlt:=(List.getElem?_eq_some_iff.1 h).1
 have hl:((scV f m).take i).length=i:=by unfold scV;rw[List.length_take,List.length_map];omega
 have hs:(scV f m)[i]? =some (x.1,f*x.2):=by unfold scV;rw[List.getElem?_map,h];rfl
 have hd:m.drop i=x::m.drop (i+1):=by
  rw[List.drop_eq_getElem_cons hlt,(List.getElem?_eq_some_iff.1 h).2]
 unfold halfV
 constructor
 ·rw[List.getElem?_append_right (by omega),hl,Nat.sub_self,hd];rfl
 ·rw[List.set_append_right _ _ (by omega),hl,Nat.sub_self,hd,List.set_cons_zero,List.take_add_one,hs]
  simp
theorem div_inv(x y:Rat):x / y=1 / y*x:=by
 rw[Rat.div_def,Rat.div_def,Rat.one_mul,Rat.mul_comm]
def CsF(B g:Nat)(s:Int)(a:Option Addr)(n p:Nat)(q:Rat)(w:World):Prop:=∃b a1 n1 c1 a2 n2 c2,Bx 36 w g #[.int .i64 s,.slice a n p,.bool b,.slice a1 n1 c1,.slice a2 n2 c2]∧FrQ B w (.agg #[.bool b,.slice a1 n1 c1,.slice a2 n2 c2]) q
theorem CsF.ext{B g:Nat}{s:Int}{a:Option Addr}{n p:Nat}{q:Rat}{w w':World}(h:CsF B g s a n p q w)(he:Ext w w'):CsF B g s a n p q w':=by
 obtain⟨b,a1,n1,c1,a2,n2,c2,h1,h2⟩:=h;exact⟨b,a1,n1,c1,a2,n2,c2,h1.ext he,h2.ext he⟩
theorem CsF.chg{B g g':Nat}{s:Int}{a:Option Addr}{n p:Nat}{q:Rat}{w w':World}(h:CsF B g s a n p q w)(he:Chg g' w w')(hne:g'≠g)(hg:g'<B):CsF B g s a n p q w':=by
 obtain⟨b,a1,n1,c1,a2,n2,c2,h1,h2⟩:=h;exact⟨b,a1,n1,c1,a2,n2,c2,h1.chg he (by omega),h2.chg he hg⟩
theorem val_cells{wz:World}{g o:Nat}{b s t:Value}(h2:wz.cell? ⟨g,o+1,none⟩=some b)(h3:wz.cell? ⟨g,o+2,none⟩=some s)(h4:wz.cell? ⟨g,o+3,none⟩=some t):∀(j:Nat) (v:Value),(#[b,s,t]:Array Value)[j]? =some v→wz.cell? ⟨g,o+1+j,none⟩=some v:=by
 intro j v hj
 match j,hj with
 |0,hj=>cases hj;exact h2
 |1,hj=>cases hj;exact h3
 |2,hj=>cases hj;exact h4
 |j+3,hj=>simp at hj
structure SclJ (w wr:World) (g3 g4 gt B K n cp:Nat) (s:Int) (b':Bool) (a1':Option Addr) (n1' c1':Nat) (a2':Option Addr) (n2' c2':Nat) (bq:Bool) (a1q:Option Addr) (n1q c1q:Nat) (a2q:Option Addr) (n2q c2q:Nat) (by_ x:Rat) (l:List (Int×Rat)):Prop where
 e0:Ext w wr
 t0:TO B K wr (.slice (some ⟨gt,0,none⟩) n cp) l
 z0:Bx 36 wr (w.heap.size+1) #[.int .i64 0,.slice none 0 0,.bool false,.slice none 0 0,.slice none 0 0]
 c0:Bx 36 wr g3 #[.int .i64 s,.slice (some ⟨gt,0,none⟩) n cp,.bool b',.slice a1' n1' c1',.slice a2' n2' c2']
 q0:Bx 81 wr g4 #[.bool bq,.slice a1q n1q c1q,.slice a2q n2q c2q]
 f0:FrQd B wr (.agg #[.bool bq,.slice a1q n1q c1q,.slice a2q n2q c2q]) by_
 x0:FrQ B wr (.agg #[.bool b',.slice a1' n1' c1',.slice a2' n2' c2']) x
set_option maxHeartbeats 32000000 in
theorem rscale_calls(k K:Nat)(v:Value)(c:CR)(w:World)(hv:CnR k w v c)(hn:c.2.1.length≤1000)(hK:c.2.1.length*(k+1)+1≤K)(hK2:k≤K)(hK3:K≤500000):
  Calls Tryz.prog 66 #[v] w fun e w'=>∃v',e= .returned v'∧CnO w.heap.size (2*K) w' v' (scaleC c)∧Ext w w':=by
 obtain⟨s,l,x⟩:=c
 simp only at hn hK
 obtain⟨a,n,p,b,a1,n1,c1,a2,n2,c2,rfl,ht,hr⟩:=hv.op;have HT:=Lib.hid ht;have HR:=Lib.hid hr;clear ht hr
 have lim:68719476736≤LIM:=by rw[LIM_eq];omega
 have hml:(mkV l).length≤1000:=by have:=mkV_len l;omega
 have HNF:=Lib.hid (mkV_nf l);obtain⟨m,hm⟩:∃m,m=mkV l:=⟨_,rfl⟩;rw[←hm]at hml HNF;have HM:=Lib.hid hm;have HXS:=Lib.hid (show szQ x≤K from Nat.le_trans HR.out.sz hK2);have HXZ:=Lib.hid (show szQ x≤2*K by have:=HXS.out;omega);have HXD:=Lib.hid (szD_of HXZ.out);obtain⟨w1,hw1,e1,b1_,b2_,s1⟩:=alloc2 w #[.int .i64 s,.slice a n p,.bool b,.slice a1 n1 c1,.slice a2 n2 c2] #[.int .i64 0,.slice none 0 0,.bool false,.slice none 0 0,.slice none 0 0] 36 36
 go_enter Tryz.func66,Tryz.ntmps66
 have hb:=b1_;have hb0:=hb.cell 0;have hb1:=hb.cell 1;have hb2:=hb.cell 2;have hb3:=hb.cell 3;have hb4:=hb.cell 4;rw[hw1]at hb0 hb1 hb2 hb3 hb4;go_wp2_with fail;rw[←hw1];clear hb hb0 hb1 hb2 hb3 hb4 hw1;refine(form11_calls k K _ (s,l,x) w1 ⟨a,n,p,b,a1,n1,c1,a2,n2,c2,rfl,HT.out.ext e1,HR.out.ext e1⟩ hn (by omega) hK hK2).mono ?_;rintro e w3 ⟨v3,rfl,hf,e3⟩;have hs3:=e3.size;have hf':CnO w1.heap.size K w3 v3 (s,mkV l,x):=hf;rw[←hm]at hf';obtain⟨a',n',cp,b',a1',n1',c1',a2',n2',c2',rfl,ht3,hr3,hz3⟩:=hf'.op;obtain⟨ad,cp',hcv⟩:=ht3.val
 cases hcv
 clear hf hf' hm;obtain⟨g3,hg3⟩:∃g3,g3=w3.heap.size:=⟨_,rfl⟩;obtain⟨w4,hw4,e4,b4,s4⟩:=alloc1 w3 #[.int .i64 s,.slice a' m.length cp,.bool b',.slice a1' n1' c1',.slice a2' n2' c2'] 36;have E3:=e1.trans e3;have E4:=E3.trans e4;have Z4:=(b2_.ext e3).ext e4;have HT4:=Lib.hid ((ht3.ext e4).mono (show w.heap.size+2≤_ by omega));have HR4:=Lib.hid ((hr3.ext e4).mono (show w.heap.size+2≤_ by omega))
 have hwg:w.heap.size+2≤g3:=by omega
 rw[←hg3]at b4;clear ht3 hr3 b1_ b2_ e1 e3 e4 E3 hz3;obtain⟨nn,hnn⟩:∃nn,nn=m.length:=⟨_,rfl⟩;have HNN:=Lib.hid hnn;have b4':=b4;rw[←hnn]at b4;have hf:=b4;have hf0:=hf.cell 0;have hf1:=hf.cell 1;have hf2:=hf.cell 2;have hf3:=hf.cell 3;have hf4:=hf.cell 4;rw[hw4,hg3]at hf0 hf1 hf2 hf3 hf4
 rcases Nat.eq_zero_or_pos nn with h0 |h0
 ·subst h0
  have hme:m=[]:=List.eq_nil_of_length_eq_zero hnn.symm
  have HME:=Lib.hid hme
  have hz:((0:Nat):Int)=0:=rfl
  have hq:=Z4;have hq0:=hq.cell 0;have hqf0:=hq.free 0;have hq1:=hq.cell 1;have hqf1:=hq.free 1;have hq2:=hq.cell 2;have hqf2:=hq.free 2;have hq3:=hq.cell 3;have hqf3:=hq.free 3;have hq4:=hq.cell 4;have hqf4:=hq.free 4;rw[hw4]at hq0 hq1 hq2 hq3 hq4 hqf0 hqf1 hqf2 hqf3 hqf4;clear hnn hme b4';go_wp2;rw[←hw4];refine ret_box 2 36 (w.heap.size+1) 36 _ _ (by kernel_rfl) rfl (((((hq.set 0 _).set 1 _).set 2 _).set 3 _).set 4 _) Tryz.underlying36 rfl (by kernel_rfl) rfl ?_;refine⟨_,rfl,?_,E4.step (((((Chg.setCell _ (w.heap.size+1) 0 _).trans (Chg.setCell _ (w.heap.size+1) 1 _)).trans (Chg.setCell _ (w.heap.size+1) 2 _)).trans (Chg.setCell _ (w.heap.size+1) 3 _)).trans (Chg.setCell _ (w.heap.size+1) 4 _)) (by omega)⟩
  have hsc:scaleC (s,l,x)=(s,m,x):=by
   unfold scaleC
   simp only
   rw[←HM.out,HME.out]
   show(s,[],1 / 1*x)=_
   rw[show (1:Rat) / 1=1 by decide+kernel,Rat.one_mul]
  rw[hsc];have ht:=HT4.out;rw[HME.out]at ht ⊢;exact⟨a',0,cp,b',a1',n1',c1',a2',n2',c2',rfl,((ht.chg ((((((Chg.setCell _ (w.heap.size+1) 0 _).trans (Chg.setCell _ (w.heap.size+1) 1 _)).trans (Chg.setCell _ (w.heap.size+1) 2 _)).trans (Chg.setCell _ (w.heap.size+1) 3 _)).trans (Chg.setCell _ (w.heap.size+1) 4 _)):Chg (w.heap.size+1) _ _) (by omega)).mono (by omega)).le (by omega),(HR4.out.chg ((((((Chg.setCell _ (w.heap.size+1) 0 _).trans (Chg.setCell _ (w.heap.size+1) 1 _)).trans (Chg.setCell _ (w.heap.size+1) 2 _)).trans (Chg.setCell _ (w.heap.size+1) 3 _)).trans (Chg.setCell _ (w.heap.size+1) 4 _)):Chg (w.heap.size+1) _ _) (by omega)).mono (by omega),by have:=HXS.out;simp only;omega⟩
 ·have hz:¬((nn:Int)=0):=by omega
  have hz2:((nn:Int)==0)=false:=by simpa using hz
  have hpos:(0:Int)<(nn:Int):=by omega
  have hne:m≠ []:=fun h=>by rw[h]at hnn;simp at hnn;omega
  have hmsz:=HT4.out.szs;have HMS:=Lib.hid hmsz;obtain⟨z1,z2, -⟩:=scale_szs HNF.out hmsz;have HSZ:=Lib.hid (z2 hne);have HSQ:=Lib.hid (z1 hne);have HLZ:Hid (leadA m≠0):=Lib.hid (by have:=lead_pos HNF.out;grind);obtain⟨⟨tc,q⟩,hx⟩:∃y,m[0]? =some y:=⟨_,List.getElem?_eq_getElem (by omega)⟩
  have HLQ:Hid (leadA m=if q<0 then -q else q):=Lib.hid (by
   match m,hx with
   |t::m,hx=>
    cases hx
    rfl)
  obtain⟨ad',cpp,hav, -,hat⟩:=HT4.out.at
  cases hav
  obtain⟨gt,rfl,tb,ta1,tn1,tc1,ta2,tn2,tc2,hcell,hqf,hqs⟩:=hat 0 _ hx;have hcl:=hcell w4 (Ext.refl _);simp only[Nat.zero_mul,Nat.zero_add]at hcl;obtain⟨ht0,ht1,ht2,ht3⟩:=hcl;have HQF:=Lib.hid (And.intro hqf hqs);rw[hw4]at ht0 ht1 ht2 ht3;clear hne hx hat hcell hqf hqs hmsz z1 z2;go_wp2_with fail;rw[←hw4];rw[←hg3];clear hg3;refine(rqofR_calls _ q K w4 (HQF.out.1.isR HQF.out.2 (by omega)) (by omega)).mono ?_;rintro e w5 ⟨v5,rfl,hq5,e5⟩;obtain⟨bq0,a1q0,n1q0,c1q0,a2q0,n2q0,c2q0,rfl,hq5⟩:=hq5.opn;have HQ5:=Lib.hid hq5;obtain⟨g4,hg4⟩:∃g4,g4=w5.heap.size:=⟨_,rfl⟩;obtain⟨w6,hw6,e6,b6,s6⟩:=alloc1 w5 #[.bool bq0,.slice a1q0 n1q0 c1q0,.slice a2q0 n2q0 c2q0] 81;have h56:=e5.trans e6;have hs56:=h56.size;have hs45:=e5.size;rw[←hg4]at b6
  have hg4w:w.heap.size+2≤g4:=by omega
  have E6:=E4.trans h56;have Z6:=Z4.ext h56;have C6:=b4'.ext h56;have HT6:=Lib.hid (HT4.out.ext h56);have HR6:=Lib.hid (HR4.out.ext h56);have hqd:szD q≤5*K:=szD_of HQF.out.2;clear hf hf0 hf1 hf2 hf3 hf4 hw4 ht0 ht1 ht2 ht3 hq5 b4 b4' Z4 HT4 HR4 e5 E4;have hq:=b6;have hq0:=hq.cell 0;have hq1:=hq.cell 1;have hq2:=hq.cell 2;rw[hw6,hg4]at hq0 hq1 hq2;go_wp2_with fail;rw[←hw6];refine(rqsign3_calls _ q w6 (HQ5.out.cq.ext e6)).mono ?_;rintro e w7 ⟨rfl,e7⟩;clear hq hq0 hq1 hq2 hw6;have E7:=E6.trans e7;have HSD:Hid (szD (leadA m)≤5*K):=Lib.hid (szD_of HSQ.out);have T7:=HT6.out.ext e7;obtain⟨by_,hby⟩:∃by_,by_=leadA m:=⟨_,rfl⟩;have HLD:=Lib.hid hby.symm;rw[←hby]at HSD HLZ HLQ;have QNE:=HLZ;clear hby
  by_cases hq0:q<0
  ·obtain⟨sg,hsgv⟩:∃sg,sg=q.num.sign:=⟨_,rfl⟩
   have hsg:sg<0:=by rw[hsgv];exact(sign_neg q).2 hq0
   rw[←hsgv]
   have HBY:Hid (by_= -q):=Lib.hid (by rw[HLQ.out,if_pos hq0])
   have hr:=b6.ext e7;have hr0:=hr.cell 0;have hrf0:=hr.free 0;have hr1:=hr.cell 1;have hrf1:=hr.free 1;have hr2:=hr.cell 2;have hrf2:=hr.free 2;rw[hg4]at hr0 hr1 hr2 hrf0 hrf1 hrf2;clear hsgv;go_wp2_with fail;refine(rqneg3f_calls w4.heap.size _ q w7 (HQ5.out.ext (e6.trans e7)) (by have:=(h56.trans e7).size;omega) (by omega)).mono ?_;rintro e w8 ⟨v8,rfl,hq8,e8⟩;obtain⟨bq,a1q,n1q,c1q,a2q,n2q,c2q,rfl,hf8⟩:=hq8.opn;clear hr0 hr1 hr2 hrf0 hrf1 hrf2 hr hq8 hq0;have hr:=b6.ext (e7.trans e8);have hs8:=e8.size;have hs7:=e7.size;obtain⟨wL,hwL,cL,QL_⟩:=putR hr (.bool bq) (.slice a1q n1q c1q) (.slice a2q n2q c2q);have hr0:=hr.cell 0;have hrf0:=hr.free 0;have hr1:=hr.cell 1;have hrf1:=hr.free 1;have hr2:=hr.cell 2;have hrf2:=hr.free 2;rw[hg4]at hr0 hr1 hr2 hrf0 hrf1 hrf2
   go_upto_region 7 with(fail)
   rw[←hg4];rw[←hwL];clear hg4;have e68:=e7.trans e8
   have J:SclJ w wL g3 g4 gt (w.heap.size+2) (2*K) nn cp s b' a1' n1' c1' a2' n2' c2' bq a1q n1q c1q a2q n2q c2q by_ x m:=
    ⟨(E6.trans e68).step cL (by omega),by rw[HNN.out];exact((HT6.out.ext e68).chgB cL hr (by decide) (by decide)).le (by omega),(Z6.ext e68).chgK cL hr (by decide),by rw[HNN.out];exact(C6.ext e68).chgK cL hr (by decide),QL_,by rw[HBY.out];exact(hf8.chgB cL hr (by decide)).mono (by omega),(HR6.out.ext e68).chgB cL hr (by decide)⟩
   clear hr hr0 hr1 hr2 hrf0 hrf1 hrf2 hwL cL hf8 h56 e6 e7 e8 e68 E6 E7 Z6 C6 HT6 HR6 HQ5 b6 QL_ HQF HBY hsg T7
   have hnm2:nn=m.length:=hnn
   clear hnn;obtain⟨n,hnx⟩:∃n,n=nn:=⟨_,rfl⟩;rw[←hnx]at J HNN h0 hz hz2 hpos hnm2;clear hnx nn;go_wp2_with fail;have HJ:=Lib.hid J;have hsL:=J.e0.size;have hzL:=J.z0.lt;obtain⟨curL, -, -,hgL,hBL,hnm, -⟩:=J.t0.cur (by omega);have HNM:=Lib.hid hnm
   have hn1000:n≤1000:=by rw[hnm];exact hml
   clear J hnm hnm2
   go_loopw [5] (fun s5 wr=>∃i:Nat,i≤n∧s5= .int .i64 (i:Int)∧Hid (SclJ w wr g3 g4 gt (w.heap.size+2) (2*K) n cp s b' a1' n1' c1' a2' n2' c2' bq a1q n1q c1q a2q n2q c2q by_ x (halfV (1 / leadA m) m i))∧wL.heap.size≤wr.heap.size) (fun s5 _=>((n:Int) - intOf s5).toNat)
   case atStart=>exact ⟨0,Nat.zero_le _,rfl,HJ,Nat.le_refl _⟩
   case round=>
    obtain⟨i,hi,rfl,hJ,hLr⟩:=hrel;have hf:=hJ.out.c0;have hZ:=hJ.out.z0;have hf3:=hf.lt;have hQ:=hJ.out.q0;have hszr:=hJ.out.e0.size;have hzr:=hZ.lt
    rcases Nat.eq_or_lt_of_le hi with hin |hin
    ·subst hin
     have hlt:¬((i:Int)<(i:Int)):=by omega
     have hf1:=hf.cell 1;go_wp2_with fail;refine wp_region_putg [⟨7,g3,CsF wr.heap.size g3 s (some ⟨gt,0,none⟩) i cp (x / by_),fun _ _ he h=>h.ext he,fun _ hne hg _ _ he h=>h.chg he hne hg⟩] [PP.val (.pointer (some ⟨g3,2,none⟩)),PP.val (.agg #[.bool b',.slice a1' n1' c1',.slice a2' n2' c2']),PP.frQd x,PP.val (.agg #[.bool bq,.slice a1q n1q c1q,.slice a2q n2q c2q]),PP.frQd (x / by_),PP.frQ (x / by_),PP.val (.pointer (some ⟨g3,2,none⟩)),PP.any] [] [7,6,5,4,3,2,1,0]
      (by kernel_rfl) (by kernel_rfl) (fun f=>(by simp only[fillR,fillL,List.setIfInBounds_toArray,List.set_cons_succ,List.set_cons_zero,Nat.reduceAdd];rfl)) ?_ ?_ ?_ ?_ ?_
     ·intro x hx;simp only[List.mem_singleton]at hx;subst hx;show g3<wr.heap.size;omega
     ·intro x hx;simp only[List.mem_singleton]at hx;subst hx;rfl
     ·intro x hx y hy h;simp only[List.mem_singleton]at hx hy;subst hx hy;exact absurd rfl h
     ·refine⟨?_,?_,?_,?_,?_,?_,?_,?_,trivial⟩
      ·intro f w2 hG hp hl;simp only[OpGoal];go_simp;exact⟨_,rfl,Ext.refl _,rfl⟩
      ·intro f w2 hG hp hl;have hE:Ext wr w2:=hG
       have q46:f 0= .pointer (some ⟨g3,2,none⟩):=tellG hp 0 0 rfl rfl (fun h=>by cases h)
       have hbx:=hf.ext hE;have hcell0:=hbx.cell 0;have hcell1:=hbx.cell 1;have hcell2:=hbx.cell 2;have hcell3:=hbx.cell 3;have hcell4:=hbx.cell 4;simp only[OpGoal];go_simp;exact⟨_,rfl,Ext.refl _,rfl⟩
      ·intro f w2 hG hp hl;have hE:Ext wr w2:=hG;have hS:=hE.size
       have q47:f 1= .agg #[.bool b',.slice a1' n1' c1',.slice a2' n2' c2']:=tellG hp 0 1 rfl rfl (fun h=>by cases h)
       change OpGoal _ _ _ f w2 Ext _;refine oC #[f 1] Tryz.func55 rfl rfl ?_;rw[q47];refine(rqofR_calls _ x (2*K) _ ((hJ.out.x0.ext hE).isR HXZ.out (by omega)) (by omega)).mono ?_;rintro e w' ⟨v',rfl,h1,h2⟩;exact⟨v',rfl,h2,h1.mono hS⟩
      ·intro f w2 hG hp hl;have hE:Ext wr w2:=hG;change OpGoal _ _ _ f w2 Ext _;exact og_load (P:=Tryz.prog) _ _ g4 _ _ _ rfl rfl rfl (hQ.ext hE) Tryz.underlying81 rfl (by kernel_rfl) rfl
      ·intro f w2 hG hp hl;have hE:Ext wr w2:=hG;have hS:=hE.size;have q48:=tellG hp 0 2 rfl rfl (fun _=>hE)
       have q49:f 3= .agg #[.bool bq,.slice a1q n1q c1q,.slice a2q n2q c2q]:=tellG hp 1 3 rfl rfl (fun h=>by cases h)
       change OpGoal _ _ _ f w2 Ext _;refine oC #[f 2,f 3] Tryz.func60 rfl rfl ?_;rw[q49];refine(rqdiv3_calls _ _ x by_ (5*(2*K)) (5*K) _ q48.cq (hJ.out.f0.cq.ext hE) QNE.out HXD.out HSD.out (by omega)).mono ?_;rintro e w' ⟨v',rfl,h1,h2⟩;exact⟨v',rfl,h2,h1.mono hS⟩
      ·intro f w2 hG hp hl;have hE:Ext wr w2:=hG;have hS:=hE.size;have q50:=tellG hp 0 4 rfl rfl (fun _=>hE);change OpGoal _ _ _ f w2 Ext _;refine oC #[f 4] Tryz.func59 rfl rfl ?_;refine(rqto3_calls _ (x / by_) _ q50.cq (by have:=szD_div HXD.out HSD.out QNE.out;omega)).mono ?_;rintro e w' ⟨v',rfl,h1,h2⟩;exact⟨v',rfl,h2,h1.mono hS⟩
      ·intro f w2 hG hp hl;simp only[OpGoal];go_simp;exact⟨_,rfl,Ext.refl _,rfl⟩
      ·intro f w2 hG hp hl;have hE:Ext wr w2:=hG;have hS:=hE.size
       have q52:f 6= .pointer (some ⟨g3,2,none⟩):=tellG hp 0 6 rfl rfl (fun h=>by cases h)
       have q51:=tellG hp 1 5 rfl rfl (fun _=>hE);intro hg0;change OpGoal _ _ _ f w2 (Chg _) _;obtain⟨b9,ad1,m1,x1,ad2,m2,x2,hv,hfq⟩:=FrQ.opn q51;exact og_storeAt (P:=Tryz.prog) g3 2 36 _ [.int .i64 s,.slice (some ⟨gt,0,none⟩) i cp,.bool b',.slice a1' n1' c1',.slice a2' n2' c2'] #[.bool b9,.slice ad1 m1 x1,.slice ad2 m2 x2] _ _ rfl rfl q52 hv (by kernel_rfl) (show Bx 36 w2 _ _ from hg0.trans hf) (show 2+3≤5 by decide) (all3 rfl rfl rfl) (fun w' hc hb u=>⟨b9,ad1,m1,x1,ad2,m2,x2,hb,hfq.chg hc (by omega)⟩)
     ·intro f w3 hG hp;have hz0:=endGS hp 7 (by decide);clear hp;have hC:Chg g3 wr w3:=ChgS.one hG;obtain⟨b9,ad1,m1,x1,ad2,m2,x2,hf9,hq9⟩:=hz0;have hz9:=hZ.chg hC (by omega);have hto:=hJ.out.t0.chgB hC hf (by decide) (by decide);rw[show halfV (1 / leadA m) m i=scV (1 / leadA m) m by rw[HNM.out];exact halfV_end _ _]at hto;have HTO:=Lib.hid hto;have HQ9:=Lib.hid hq9;have X9:=hJ.out.e0.step hC (by omega);have hs9:=hC.size
      have hqq:x / by_=1 / leadA m*x:=by rw[HLD.out];exact div_inv x by_
      have HQQ:=Lib.hid hqq
      have hqz:szQ (1 / leadA m*x)≤2*K:=by have:=szQ_mul HSZ.out HXS.out;omega
      have HQZ:=Lib.hid hqz;clear hf hZ hQ hf1 hG hC hto hq9 hqq hqz;have hq:=hz9;have hf0:=hf9.cell 0;have hf1:=hf9.cell 1;have hf2:=hf9.cell 2;have hf3:=hf9.cell 3;have hf4:=hf9.cell 4;have hq0:=hq.cell 0;have hqf0:=hq.free 0;have hq1:=hq.cell 1;have hqf1:=hq.free 1;have hq2:=hq.cell 2;have hqf2:=hq.free 2;have hq3:=hq.cell 3;have hqf3:=hq.free 3;have hq4:=hq.cell 4;have hqf4:=hq.free 4;go_wp2;refine ret_box 2 36 (w.heap.size+1) 36 _ _ (by kernel_rfl) rfl (((((hq.set 0 _).set 1 _).set 2 _).set 3 _).set 4 _) Tryz.underlying36 rfl (by kernel_rfl) rfl ?_;refine⟨_,rfl,?_,X9.step (((((Chg.setCell _ (w.heap.size+1) 0 _).trans (Chg.setCell _ (w.heap.size+1) 1 _)).trans (Chg.setCell _ (w.heap.size+1) 2 _)).trans (Chg.setCell _ (w.heap.size+1) 3 _)).trans (Chg.setCell _ (w.heap.size+1) 4 _)) (by omega)⟩;unfold scaleC
      simp only
      rw[←HM.out];rw[HQQ.out]at HQ9;exact⟨some ⟨gt,0,none⟩,i,cp,b9,ad1,m1,x1,ad2,m2,x2,rfl,((HTO.out.chg ((((((Chg.setCell _ (w.heap.size+1) 0 _).trans (Chg.setCell _ (w.heap.size+1) 1 _)).trans (Chg.setCell _ (w.heap.size+1) 2 _)).trans (Chg.setCell _ (w.heap.size+1) 3 _)).trans (Chg.setCell _ (w.heap.size+1) 4 _)):Chg (w.heap.size+1) _ _) (by omega)).mono (by omega)),(HQ9.out.chg ((((((Chg.setCell _ (w.heap.size+1) 0 _).trans (Chg.setCell _ (w.heap.size+1) 1 _)).trans (Chg.setCell _ (w.heap.size+1) 2 _)).trans (Chg.setCell _ (w.heap.size+1) 3 _)).trans (Chg.setCell _ (w.heap.size+1) 4 _)):Chg (w.heap.size+1) _ _) (by omega)).mono (by omega),HQZ.out⟩
    ·have hlt:(i:Int)<(n:Int):=by omega
     obtain⟨⟨tc,q⟩,hx⟩:∃y,m[i]? =some y:=⟨_,List.getElem?_eq_getElem (by rw[←HNM.out];exact hin)⟩;obtain⟨hh1,hh2⟩:=halfV_at (f:=1 / leadA m) hx;have HH:=Lib.hid (And.intro hh1 hh2);obtain⟨cur,hcur,hcl,hcg, -, -,hcx⟩:=hJ.out.t0.cur (by rw[halfV_len,←HNM.out];omega);rw[halfV_len,←HNM.out]at hcl;have hcc:=hcx i _ hh1;obtain⟨ad',cp',hav, -,hat⟩:=hJ.out.t0.at;simp only[Value.slice.injEq]at hav;obtain⟨rfl, -,rfl⟩:=hav;obtain⟨gt',hgt',tb,ta1,tn1,tc1,ta2,tn2,tc2,hcell,hqf,hqs⟩:=hat i _ hh1
     cases hgt'
     have HC:=Lib.hid hcell;have HQ:=Lib.hid (And.intro hqf hqs);have HCC:=Lib.hid hcc;have HFQ:=Lib.hid hJ.out.f0;have hsq:szD q≤5*(2*K):=szD_of hqs;have hsqd:=szD_div hsq HSD.out QNE.out
     have hqq:q / by_=1 / leadA m*q:=by rw[HLD.out];exact div_inv q by_
     have HQQ:=Lib.hid hqq;have hXS:szQ q≤K:=HMS.out _ (List.mem_of_getElem? hx)
     have hqz:szQ (q / by_)≤2*K:=by rw[HQQ.out];have:=szQ_mul HSZ.out hXS;omega
     have HQZ:=Lib.hid hqz;clear hh1 hh2 hcx hcc hat hcell hqf hqs hx hqq hXS hqz;have hf1:=hf.cell 1;go_wp2_with fail;refine wp_region_putg [⟨15,gt,TsF wr.heap.size gt cur (i*4) tc (q / by_),fun _ _ he h=>h.ext he,fun _ hne hg _ _ he h=>h.chg he hne hg⟩] [PP.val (.pointer (some ⟨g3,1,none⟩)),PP.val (.slice (some ⟨gt,0,none⟩) n cp),PP.val (.int .i64 (i:Int)),PP.val (.pointer (some ⟨g3,1,none⟩)),PP.val (.slice (some ⟨gt,0,none⟩) n cp),PP.val (.int .i64 (i:Int)),PP.val (.pointer (some ⟨gt,i*4,none⟩)),PP.val (.pointer (some ⟨gt,i*4+1,none⟩)),PP.val (.agg #[.bool tb,.slice ta1 tn1 tc1,.slice ta2 tn2 tc2]),PP.frQd q,PP.val (.agg #[.bool bq,.slice a1q n1q c1q,.slice a2q n2q c2q]),PP.frQd (q / by_),PP.frQ (q / by_),PP.val (.pointer (some ⟨gt,i*4,none⟩)),PP.val (.pointer (some ⟨gt,i*4+1,none⟩)),PP.any] [] [15,14,13,12,11,10,9,8,7,6,5,4,3,2,1,0]
      (by kernel_rfl) (by kernel_rfl) (fun f=>(by simp only[fillR,fillL,List.setIfInBounds_toArray,List.set_cons_succ,List.set_cons_zero,Nat.reduceAdd];rfl)) ?_ ?_ ?_ ?_ ?_
     ·intro x hx;simp only[List.mem_singleton]at hx;subst hx;show gt<wr.heap.size;omega
     ·intro x hx;simp only[List.mem_singleton]at hx;subst hx;rfl
     ·intro x hx y hy h;simp only[List.mem_singleton]at hx hy;subst hx hy;exact absurd rfl h
     ·refine⟨?_,?_,?_,?_,?_,?_,?_,?_,?_,?_,?_,?_,?_,?_,?_,?_,trivial⟩
      ·intro f w2 hG hp hl;simp only[OpGoal];go_simp;exact⟨_,rfl,Ext.refl _,rfl⟩
      ·intro f w2 hG hp hl;have hE:Ext wr w2:=hG
       have q31:f 0= .pointer (some ⟨g3,1,none⟩):=tellG hp 0 0 rfl rfl (fun h=>by cases h)
       have hcell:=(hf.ext hE).cell 1;simp only[OpGoal];go_simp;exact⟨_,rfl,Ext.refl _,rfl⟩
      ·intro f w2 hG hp hl;simp only[OpGoal];go_simp;exact⟨_,rfl,Ext.refl _,rfl⟩
      ·intro f w2 hG hp hl;simp only[OpGoal];go_simp;exact⟨_,rfl,Ext.refl _,rfl⟩
      ·intro f w2 hG hp hl;have hE:Ext wr w2:=hG
       have q34:f 3= .pointer (some ⟨g3,1,none⟩):=tellG hp 0 3 rfl rfl (fun h=>by cases h)
       have hcell:=(hf.ext hE).cell 1;simp only[OpGoal];go_simp;exact⟨_,rfl,Ext.refl _,rfl⟩
      ·intro f w2 hG hp hl;simp only[OpGoal];go_simp;exact⟨_,rfl,Ext.refl _,rfl⟩
      ·intro f w2 hG hp hl
       have q35:f 4= .slice (some ⟨gt,0,none⟩) n cp:=tellG hp 0 4 rfl rfl (fun h=>by cases h)
       have q36:f 5= .int .i64 (i:Int):=tellG hp 1 5 rfl rfl (fun h=>by cases h)
       simp only[OpGoal];go_simp;exact⟨_,rfl,Ext.refl _,rfl⟩
      ·intro f w2 hG hp hl
       have q37:f 6= .pointer (some ⟨gt,i*4,none⟩):=tellG hp 0 6 rfl rfl (fun h=>by cases h)
       simp only[OpGoal];go_simp;exact⟨_,rfl,Ext.refl _,rfl⟩
      ·intro f w2 hG hp hl;have hE:Ext wr w2:=hG
       have q38:f 7= .pointer (some ⟨gt,i*4+1,none⟩):=tellG hp 0 7 rfl rfl (fun h=>by cases h)
       change OpGoal _ _ _ f w2 Ext _;have hcs:=HC.out _ hE;exact og_loadAt (P:=Tryz.prog) _ _ gt (i*4+1) _ _ rfl rfl q38 (val_cells hcs.2.1 hcs.2.2.1 hcs.2.2.2) Tryz.underlying34 rfl (by kernel_rfl) rfl
      ·intro f w2 hG hp hl;have hE:Ext wr w2:=hG;have hS:=hE.size
       have q39:f 8= .agg #[.bool tb,.slice ta1 tn1 tc1,.slice ta2 tn2 tc2]:=tellG hp 0 8 rfl rfl (fun h=>by cases h)
       change OpGoal _ _ _ f w2 Ext _;refine oC #[f 8] Tryz.func55 rfl rfl ?_;rw[q39];refine(rqofR_calls _ q (2*K) _ ((HQ.out.1.ext hE).isR HQ.out.2 (by omega)) (by omega)).mono ?_;rintro e w' ⟨v',rfl,h1,h2⟩;exact⟨v',rfl,h2,h1.mono hS⟩
      ·intro f w2 hG hp hl;have hE:Ext wr w2:=hG;change OpGoal _ _ _ f w2 Ext _;exact og_load (P:=Tryz.prog) _ _ g4 _ _ _ rfl rfl rfl (hQ.ext hE) Tryz.underlying81 rfl (by kernel_rfl) rfl
      ·intro f w2 hG hp hl;have hE:Ext wr w2:=hG;have hS:=hE.size;have q40:=tellG hp 0 9 rfl rfl (fun _=>hE)
       have q41:f 10= .agg #[.bool bq,.slice a1q n1q c1q,.slice a2q n2q c2q]:=tellG hp 1 10 rfl rfl (fun h=>by cases h)
       change OpGoal _ _ _ f w2 Ext _;refine oC #[f 9,f 10] Tryz.func60 rfl rfl ?_;rw[q41];refine(rqdiv3_calls _ _ q by_ (5*(2*K)) (5*K) _ q40.cq (HFQ.out.cq.ext hE) QNE.out hsq HSD.out (by omega)).mono ?_;rintro e w' ⟨v',rfl,h1,h2⟩;exact⟨v',rfl,h2,h1.mono hS⟩
      ·intro f w2 hG hp hl;have hE:Ext wr w2:=hG;have hS:=hE.size;have q42:=tellG hp 0 11 rfl rfl (fun _=>hE);change OpGoal _ _ _ f w2 Ext _;refine oC #[f 11] Tryz.func59 rfl rfl ?_;refine(rqto3_calls _ (q / by_) _ q42.cq (by omega)).mono ?_;rintro e w' ⟨v',rfl,h1,h2⟩;exact⟨v',rfl,h2,h1.mono hS⟩
      ·intro f w2 hG hp hl
       have q32:f 1= .slice (some ⟨gt,0,none⟩) n cp:=tellG hp 0 1 rfl rfl (fun h=>by cases h)
       have q33:f 2= .int .i64 (i:Int):=tellG hp 1 2 rfl rfl (fun h=>by cases h)
       simp only[OpGoal];go_simp;exact⟨_,rfl,Ext.refl _,rfl⟩
      ·intro f w2 hG hp hl
       have q44:f 13= .pointer (some ⟨gt,i*4,none⟩):=tellG hp 0 13 rfl rfl (fun h=>by cases h)
       simp only[OpGoal];go_simp;exact⟨_,rfl,Ext.refl _,rfl⟩
      ·intro f w2 hG hp hl;have hE:Ext wr w2:=hG;have hS:=hE.size
       have q45:f 14= .pointer (some ⟨gt,i*4+1,none⟩):=tellG hp 0 14 rfl rfl (fun h=>by cases h)
       have q43:=tellG hp 1 12 rfl rfl (fun _=>hE);intro hg0;change OpGoal _ _ _ f w2 (Chg _) _;obtain⟨b9,ad1,m1,x1,ad2,m2,x2,hv,hfq⟩:=FrQ.opn q43;exact og_storeAt (P:=Tryz.prog) gt (i*4+1) 96 _ cur #[.bool b9,.slice ad1 m1 x1,.slice ad2 m2 x2] _ _ rfl rfl q45 hv (by kernel_rfl) (show Bx 96 w2 _ _ from hg0.trans hcur) (show i*4+1+3≤cur.length by omega) (all3 rfl rfl rfl) (fun w' hc hb u=>⟨⟨tc,b9,ad1,m1,x1,ad2,m2,x2⟩,rfl,hfq.chg hc (by omega),by rw[laidS_next HCC.out]at hb;exact hb⟩)
     ·intro f w3 hG hp;have hz0:=endGS hp 15 (by decide);clear hp;have hC:Chg gt wr w3:=ChgS.one hG;have hto:=hJ.out.t0.put HH.out.1 hcur hC hz0 (by omega) HQZ.out;rw[HQQ.out,HH.out.2]at hto;have hcB:=hcur
      have hJ3:SclJ w w3 g3 g4 gt (w.heap.size+2) (2*K) n cp s b' a1' n1' c1' a2' n2' c2' bq a1q n1q c1q a2q n2q c2q by_ x (halfV (1 / leadA m) m (i+1)):=
       ⟨hJ.out.e0.step hC (by omega),hto,hZ.chgK hC hcB (by decide),hf.chgK hC hcB (by decide),hQ.chgK hC hcB (by decide),hJ.out.f0.chgB hC hcB (by decide),hJ.out.x0.chgB hC hcB (by decide)⟩
      have HJ3:=Lib.hid hJ3;have hs3:=hC.size;clear hto hJ3 hG hC hz0 hf1 hcur;go_wp2;go_roundw
      case rel=>exact ⟨i+1,by omega,congrArg (Value.int .i64) (by omega),HJ3,by omega⟩
      case measure=>simp [intOf];omega
  ·obtain⟨sg,hsgv⟩:∃sg,sg=q.num.sign:=⟨_,rfl⟩
   have hsg:¬sg<0:=by rw[hsgv];exact fun h=>hq0 ((sign_neg q).1 h)
   have hsg1:decide (sg<0)=false:=decide_eq_false hsg
   rw[←hsgv]
   have HBY:Hid (by_=q):=Lib.hid (by rw[HLQ.out,if_neg hq0])
   have hs7:=e7.size;obtain⟨bq,hbq⟩:∃y,y=bq0:=⟨_,rfl⟩;obtain⟨a1q,ha1⟩:∃y,y=a1q0:=⟨_,rfl⟩;obtain⟨n1q,hn1⟩:∃y,y=n1q0:=⟨_,rfl⟩;obtain⟨c1q,hc1⟩:∃y,y=c1q0:=⟨_,rfl⟩;obtain⟨a2q,ha2⟩:∃y,y=a2q0:=⟨_,rfl⟩;obtain⟨n2q,hn2⟩:∃y,y=n2q0:=⟨_,rfl⟩;obtain⟨c2q,hc2⟩:∃y,y=c2q0:=⟨_,rfl⟩;have e57:=e6.trans e7
   have J:SclJ w w7 g3 g4 gt (w.heap.size+2) (2*K) nn cp s b' a1' n1' c1' a2' n2' c2' bq a1q n1q c1q a2q n2q c2q by_ x m:=
    ⟨E7,by rw[HNN.out];exact T7.le (by omega),Z6.ext e7,by rw[HNN.out];exact C6.ext e7,by rw[hbq,ha1,hn1,hc1,ha2,hn2,hc2];exact b6.ext e7,by rw[HBY.out,hbq,ha1,hn1,hc1,ha2,hn2,hc2];exact(HQ5.out.ext e57).mono (by omega),HR6.out.ext e7⟩
   obtain⟨wL,hwL⟩:∃wL,wL=w7:=⟨_,rfl⟩;rw[←hwL]at J;clear hbq ha1 hn1 hc1 ha2 hn2 hc2 h56 e6 e7 e57 E6 E7 Z6 C6 HT6 HR6 HQ5 b6 HQF HBY T7 hsgv hq0
   have hnm2:nn=m.length:=hnn
   clear hnn;obtain⟨n,hnx⟩:∃n,n=nn:=⟨_,rfl⟩;rw[←hnx]at J HNN h0 hz hz2 hpos hnm2;clear hnx nn;go_wp2_with fail;rw[←hwL,←hg4];clear hwL hg4;have HJ:=Lib.hid J;have hsL:=J.e0.size;have hzL:=J.z0.lt;obtain⟨curL, -, -,hgL,hBL,hnm, -⟩:=J.t0.cur (by omega);have HNM:=Lib.hid hnm
   have hn1000:n≤1000:=by rw[hnm];exact hml
   clear J hnm hnm2
   go_loopw [5] (fun s5 wr=>∃i:Nat,i≤n∧s5= .int .i64 (i:Int)∧Hid (SclJ w wr g3 g4 gt (w.heap.size+2) (2*K) n cp s b' a1' n1' c1' a2' n2' c2' bq a1q n1q c1q a2q n2q c2q by_ x (halfV (1 / leadA m) m i))∧wL.heap.size≤wr.heap.size) (fun s5 _=>((n:Int) - intOf s5).toNat)
   case atStart=>exact ⟨0,Nat.zero_le _,rfl,HJ,Nat.le_refl _⟩
   case round=>
    obtain⟨i,hi,rfl,hJ,hLr⟩:=hrel;have hf:=hJ.out.c0;have hZ:=hJ.out.z0;have hf3:=hf.lt;have hQ:=hJ.out.q0;have hszr:=hJ.out.e0.size;have hzr:=hZ.lt
    rcases Nat.eq_or_lt_of_le hi with hin |hin
    ·subst hin
     have hlt:¬((i:Int)<(i:Int)):=by omega
     have hf1:=hf.cell 1;go_wp2_with fail;refine wp_region_putg [⟨7,g3,CsF wr.heap.size g3 s (some ⟨gt,0,none⟩) i cp (x / by_),fun _ _ he h=>h.ext he,fun _ hne hg _ _ he h=>h.chg he hne hg⟩] [PP.val (.pointer (some ⟨g3,2,none⟩)),PP.val (.agg #[.bool b',.slice a1' n1' c1',.slice a2' n2' c2']),PP.frQd x,PP.val (.agg #[.bool bq,.slice a1q n1q c1q,.slice a2q n2q c2q]),PP.frQd (x / by_),PP.frQ (x / by_),PP.val (.pointer (some ⟨g3,2,none⟩)),PP.any] [] [7,6,5,4,3,2,1,0]
      (by kernel_rfl) (by kernel_rfl) (fun f=>(by simp only[fillR,fillL,List.setIfInBounds_toArray,List.set_cons_succ,List.set_cons_zero,Nat.reduceAdd];rfl)) ?_ ?_ ?_ ?_ ?_
     ·intro x hx;simp only[List.mem_singleton]at hx;subst hx;show g3<wr.heap.size;omega
     ·intro x hx;simp only[List.mem_singleton]at hx;subst hx;rfl
     ·intro x hx y hy h;simp only[List.mem_singleton]at hx hy;subst hx hy;exact absurd rfl h
     ·refine⟨?_,?_,?_,?_,?_,?_,?_,?_,trivial⟩
      ·intro f w2 hG hp hl;simp only[OpGoal];go_simp;exact⟨_,rfl,Ext.refl _,rfl⟩
      ·intro f w2 hG hp hl;have hE:Ext wr w2:=hG
       have q46:f 0= .pointer (some ⟨g3,2,none⟩):=tellG hp 0 0 rfl rfl (fun h=>by cases h)
       have hbx:=hf.ext hE;have hcell0:=hbx.cell 0;have hcell1:=hbx.cell 1;have hcell2:=hbx.cell 2;have hcell3:=hbx.cell 3;have hcell4:=hbx.cell 4;simp only[OpGoal];go_simp;exact⟨_,rfl,Ext.refl _,rfl⟩
      ·intro f w2 hG hp hl;have hE:Ext wr w2:=hG;have hS:=hE.size
       have q47:f 1= .agg #[.bool b',.slice a1' n1' c1',.slice a2' n2' c2']:=tellG hp 0 1 rfl rfl (fun h=>by cases h)
       change OpGoal _ _ _ f w2 Ext _;refine oC #[f 1] Tryz.func55 rfl rfl ?_;rw[q47];refine(rqofR_calls _ x (2*K) _ ((hJ.out.x0.ext hE).isR HXZ.out (by omega)) (by omega)).mono ?_;rintro e w' ⟨v',rfl,h1,h2⟩;exact⟨v',rfl,h2,h1.mono hS⟩
      ·intro f w2 hG hp hl;have hE:Ext wr w2:=hG;change OpGoal _ _ _ f w2 Ext _;exact og_load (P:=Tryz.prog) _ _ g4 _ _ _ rfl rfl rfl (hQ.ext hE) Tryz.underlying81 rfl (by kernel_rfl) rfl
      ·intro f w2 hG hp hl;have hE:Ext wr w2:=hG;have hS:=hE.size;have q48:=tellG hp 0 2 rfl rfl (fun _=>hE)
       have q49:f 3= .agg #[.bool bq,.slice a1q n1q c1q,.slice a2q n2q c2q]:=tellG hp 1 3 rfl rfl (fun h=>by cases h)
       change OpGoal _ _ _ f w2 Ext _;refine oC #[f 2,f 3] Tryz.func60 rfl rfl ?_;rw[q49];refine(rqdiv3_calls _ _ x by_ (5*(2*K)) (5*K) _ q48.cq (hJ.out.f0.cq.ext hE) QNE.out HXD.out HSD.out (by omega)).mono ?_;rintro e w' ⟨v',rfl,h1,h2⟩;exact⟨v',rfl,h2,h1.mono hS⟩
      ·intro f w2 hG hp hl;have hE:Ext wr w2:=hG;have hS:=hE.size;have q50:=tellG hp 0 4 rfl rfl (fun _=>hE);change OpGoal _ _ _ f w2 Ext _;refine oC #[f 4] Tryz.func59 rfl rfl ?_;refine(rqto3_calls _ (x / by_) _ q50.cq (by have:=szD_div HXD.out HSD.out QNE.out;omega)).mono ?_;rintro e w' ⟨v',rfl,h1,h2⟩;exact⟨v',rfl,h2,h1.mono hS⟩
      ·intro f w2 hG hp hl;simp only[OpGoal];go_simp;exact⟨_,rfl,Ext.refl _,rfl⟩
      ·intro f w2 hG hp hl;have hE:Ext wr w2:=hG;have hS:=hE.size
       have q52:f 6= .pointer (some ⟨g3,2,none⟩):=tellG hp 0 6 rfl rfl (fun h=>by cases h)
       have q51:=tellG hp 1 5 rfl rfl (fun _=>hE);intro hg0;change OpGoal _ _ _ f w2 (Chg _) _;obtain⟨b9,ad1,m1,x1,ad2,m2,x2,hv,hfq⟩:=FrQ.opn q51;exact og_storeAt (P:=Tryz.prog) g3 2 36 _ [.int .i64 s,.slice (some ⟨gt,0,none⟩) i cp,.bool b',.slice a1' n1' c1',.slice a2' n2' c2'] #[.bool b9,.slice ad1 m1 x1,.slice ad2 m2 x2] _ _ rfl rfl q52 hv (by kernel_rfl) (show Bx 36 w2 _ _ from hg0.trans hf) (show 2+3≤5 by decide) (all3 rfl rfl rfl) (fun w' hc hb u=>⟨b9,ad1,m1,x1,ad2,m2,x2,hb,hfq.chg hc (by omega)⟩)
     ·intro f w3 hG hp;have hz0:=endGS hp 7 (by decide);clear hp;have hC:Chg g3 wr w3:=ChgS.one hG;obtain⟨b9,ad1,m1,x1,ad2,m2,x2,hf9,hq9⟩:=hz0;have hz9:=hZ.chg hC (by omega);have hto:=hJ.out.t0.chgB hC hf (by decide) (by decide);rw[show halfV (1 / leadA m) m i=scV (1 / leadA m) m by rw[HNM.out];exact halfV_end _ _]at hto;have HTO:=Lib.hid hto;have HQ9:=Lib.hid hq9;have X9:=hJ.out.e0.step hC (by omega);have hs9:=hC.size
      have hqq:x / by_=1 / leadA m*x:=by rw[HLD.out];exact div_inv x by_
      have HQQ:=Lib.hid hqq
      have hqz:szQ (1 / leadA m*x)≤2*K:=by have:=szQ_mul HSZ.out HXS.out;omega
      have HQZ:=Lib.hid hqz;clear hf hZ hQ hf1 hG hC hto hq9 hqq hqz;have hq:=hz9;have hf0:=hf9.cell 0;have hf1:=hf9.cell 1;have hf2:=hf9.cell 2;have hf3:=hf9.cell 3;have hf4:=hf9.cell 4;have hq0:=hq.cell 0;have hqf0:=hq.free 0;have hq1:=hq.cell 1;have hqf1:=hq.free 1;have hq2:=hq.cell 2;have hqf2:=hq.free 2;have hq3:=hq.cell 3;have hqf3:=hq.free 3;have hq4:=hq.cell 4;have hqf4:=hq.free 4;go_wp2;refine ret_box 2 36 (w.heap.size+1) 36 _ _ (by kernel_rfl) rfl (((((hq.set 0 _).set 1 _).set 2 _).set 3 _).set 4 _) Tryz.underlying36 rfl (by kernel_rfl) rfl ?_;refine⟨_,rfl,?_,X9.step (((((Chg.setCell _ (w.heap.size+1) 0 _).trans (Chg.setCell _ (w.heap.size+1) 1 _)).trans (Chg.setCell _ (w.heap.size+1) 2 _)).trans (Chg.setCell _ (w.heap.size+1) 3 _)).trans (Chg.setCell _ (w.heap.size+1) 4 _)) (by omega)⟩;unfold scaleC
      simp only
      rw[←HM.out];rw[HQQ.out]at HQ9;exact⟨some ⟨gt,0,none⟩,i,cp,b9,ad1,m1,x1,ad2,m2,x2,rfl,((HTO.out.chg ((((((Chg.setCell _ (w.heap.size+1) 0 _).trans (Chg.setCell _ (w.heap.size+1) 1 _)).trans (Chg.setCell _ (w.heap.size+1) 2 _)).trans (Chg.setCell _ (w.heap.size+1) 3 _)).trans (Chg.setCell _ (w.heap.size+1) 4 _)):Chg (w.heap.size+1) _ _) (by omega)).mono (by omega)),(HQ9.out.chg ((((((Chg.setCell _ (w.heap.size+1) 0 _).trans (Chg.setCell _ (w.heap.size+1) 1 _)).trans (Chg.setCell _ (w.heap.size+1) 2 _)).trans (Chg.setCell _ (w.heap.size+1) 3 _)).trans (Chg.setCell _ (w.heap.size+1) 4 _)):Chg (w.heap.size+1) _ _) (by omega)).mono (by omega),HQZ.out⟩
    ·have hlt:(i:Int)<(n:Int):=by omega
     obtain⟨⟨tc,q⟩,hx⟩:∃y,m[i]? =some y:=⟨_,List.getElem?_eq_getElem (by rw[←HNM.out];exact hin)⟩;obtain⟨hh1,hh2⟩:=halfV_at (f:=1 / leadA m) hx;have HH:=Lib.hid (And.intro hh1 hh2);obtain⟨cur,hcur,hcl,hcg, -, -,hcx⟩:=hJ.out.t0.cur (by rw[halfV_len,←HNM.out];omega);rw[halfV_len,←HNM.out]at hcl;have hcc:=hcx i _ hh1;obtain⟨ad',cp',hav, -,hat⟩:=hJ.out.t0.at;simp only[Value.slice.injEq]at hav;obtain⟨rfl, -,rfl⟩:=hav;obtain⟨gt',hgt',tb,ta1,tn1,tc1,ta2,tn2,tc2,hcell,hqf,hqs⟩:=hat i _ hh1
     cases hgt'
     have HC:=Lib.hid hcell;have HQ:=Lib.hid (And.intro hqf hqs);have HCC:=Lib.hid hcc;have HFQ:=Lib.hid hJ.out.f0;have hsq:szD q≤5*(2*K):=szD_of hqs;have hsqd:=szD_div hsq HSD.out QNE.out
     have hqq:q / by_=1 / leadA m*q:=by rw[HLD.out];exact div_inv q by_
     have HQQ:=Lib.hid hqq;have hXS:szQ q≤K:=HMS.out _ (List.mem_of_getElem? hx)
     have hqz:szQ (q / by_)≤2*K:=by rw[HQQ.out];have:=szQ_mul HSZ.out hXS;omega
     have HQZ:=Lib.hid hqz;clear hh1 hh2 hcx hcc hat hcell hqf hqs hx hqq hXS hqz;have hf1:=hf.cell 1;go_wp2_with fail;refine wp_region_putg [⟨15,gt,TsF wr.heap.size gt cur (i*4) tc (q / by_),fun _ _ he h=>h.ext he,fun _ hne hg _ _ he h=>h.chg he hne hg⟩] [PP.val (.pointer (some ⟨g3,1,none⟩)),PP.val (.slice (some ⟨gt,0,none⟩) n cp),PP.val (.int .i64 (i:Int)),PP.val (.pointer (some ⟨g3,1,none⟩)),PP.val (.slice (some ⟨gt,0,none⟩) n cp),PP.val (.int .i64 (i:Int)),PP.val (.pointer (some ⟨gt,i*4,none⟩)),PP.val (.pointer (some ⟨gt,i*4+1,none⟩)),PP.val (.agg #[.bool tb,.slice ta1 tn1 tc1,.slice ta2 tn2 tc2]),PP.frQd q,PP.val (.agg #[.bool bq,.slice a1q n1q c1q,.slice a2q n2q c2q]),PP.frQd (q / by_),PP.frQ (q / by_),PP.val (.pointer (some ⟨gt,i*4,none⟩)),PP.val (.pointer (some ⟨gt,i*4+1,none⟩)),PP.any] [] [15,14,13,12,11,10,9,8,7,6,5,4,3,2,1,0]
      (by kernel_rfl) (by kernel_rfl) (fun f=>(by simp only[fillR,fillL,List.setIfInBounds_toArray,List.set_cons_succ,List.set_cons_zero,Nat.reduceAdd];rfl)) ?_ ?_ ?_ ?_ ?_
     ·intro x hx;simp only[List.mem_singleton]at hx;subst hx;show gt<wr.heap.size;omega
     ·intro x hx;simp only[List.mem_singleton]at hx;subst hx;rfl
     ·intro x hx y hy h;simp only[List.mem_singleton]at hx hy;subst hx hy;exact absurd rfl h
     ·refine⟨?_,?_,?_,?_,?_,?_,?_,?_,?_,?_,?_,?_,?_,?_,?_,?_,trivial⟩
      ·intro f w2 hG hp hl;simp only[OpGoal];go_simp;exact⟨_,rfl,Ext.refl _,rfl⟩
      ·intro f w2 hG hp hl;have hE:Ext wr w2:=hG
       have q31:f 0= .pointer (some ⟨g3,1,none⟩):=tellG hp 0 0 rfl rfl (fun h=>by cases h)
       have hcell:=(hf.ext hE).cell 1;simp only[OpGoal];go_simp;exact⟨_,rfl,Ext.refl _,rfl⟩
      ·intro f w2 hG hp hl;simp only[OpGoal];go_simp;exact⟨_,rfl,Ext.refl _,rfl⟩
      ·intro f w2 hG hp hl;simp only[OpGoal];go_simp;exact⟨_,rfl,Ext.refl _,rfl⟩
      ·intro f w2 hG hp hl;have hE:Ext wr w2:=hG
       have q34:f 3= .pointer (some ⟨g3,1,none⟩):=tellG hp 0 3 rfl rfl (fun h=>by cases h)
       have hcell:=(hf.ext hE).cell 1;simp only[OpGoal];go_simp;exact⟨_,rfl,Ext.refl _,rfl⟩
      ·intro f w2 hG hp hl;simp only[OpGoal];go_simp;exact⟨_,rfl,Ext.refl _,rfl⟩
      ·intro f w2 hG hp hl
       have q35:f 4= .slice (some ⟨gt,0,none⟩) n cp:=tellG hp 0 4 rfl rfl (fun h=>by cases h)
       have q36:f 5= .int .i64 (i:Int):=tellG hp 1 5 rfl rfl (fun h=>by cases h)
       simp only[OpGoal];go_simp;exact⟨_,rfl,Ext.refl _,rfl⟩
      ·intro f w2 hG hp hl
       have q37:f 6= .pointer (some ⟨gt,i*4,none⟩):=tellG hp 0 6 rfl rfl (fun h=>by cases h)
       simp only[OpGoal];go_simp;exact⟨_,rfl,Ext.refl _,rfl⟩
      ·intro f w2 hG hp hl;have hE:Ext wr w2:=hG
       have q38:f 7= .pointer (some ⟨gt,i*4+1,none⟩):=tellG hp 0 7 rfl rfl (fun h=>by cases h)
       change OpGoal _ _ _ f w2 Ext _;have hcs:=HC.out _ hE;exact og_loadAt (P:=Tryz.prog) _ _ gt (i*4+1) _ _ rfl rfl q38 (val_cells hcs.2.1 hcs.2.2.1 hcs.2.2.2) Tryz.underlying34 rfl (by kernel_rfl) rfl
      ·intro f w2 hG hp hl;have hE:Ext wr w2:=hG;have hS:=hE.size
       have q39:f 8= .agg #[.bool tb,.slice ta1 tn1 tc1,.slice ta2 tn2 tc2]:=tellG hp 0 8 rfl rfl (fun h=>by cases h)
       change OpGoal _ _ _ f w2 Ext _;refine oC #[f 8] Tryz.func55 rfl rfl ?_;rw[q39];refine(rqofR_calls _ q (2*K) _ ((HQ.out.1.ext hE).isR HQ.out.2 (by omega)) (by omega)).mono ?_;rintro e w' ⟨v',rfl,h1,h2⟩;exact⟨v',rfl,h2,h1.mono hS⟩
      ·intro f w2 hG hp hl;have hE:Ext wr w2:=hG;change OpGoal _ _ _ f w2 Ext _;exact og_load (P:=Tryz.prog) _ _ g4 _ _ _ rfl rfl rfl (hQ.ext hE) Tryz.underlying81 rfl (by kernel_rfl) rfl
      ·intro f w2 hG hp hl;have hE:Ext wr w2:=hG;have hS:=hE.size;have q40:=tellG hp 0 9 rfl rfl (fun _=>hE)
       have q41:f 10= .agg #[.bool bq,.slice a1q n1q c1q,.slice a2q n2q c2q]:=tellG hp 1 10 rfl rfl (fun h=>by cases h)
       change OpGoal _ _ _ f w2 Ext _;refine oC #[f 9,f 10] Tryz.func60 rfl rfl ?_;rw[q41];refine(rqdiv3_calls _ _ q by_ (5*(2*K)) (5*K) _ q40.cq (HFQ.out.cq.ext hE) QNE.out hsq HSD.out (by omega)).mono ?_;rintro e w' ⟨v',rfl,h1,h2⟩;exact⟨v',rfl,h2,h1.mono hS⟩
      ·intro f w2 hG hp hl;have hE:Ext wr w2:=hG;have hS:=hE.size;have q42:=tellG hp 0 11 rfl rfl (fun _=>hE);change OpGoal _ _ _ f w2 Ext _;refine oC #[f 11] Tryz.func59 rfl rfl ?_;refine(rqto3_calls _ (q / by_) _ q42.cq (by omega)).mono ?_;rintro e w' ⟨v',rfl,h1,h2⟩;exact⟨v',rfl,h2,h1.mono hS⟩
      ·intro f w2 hG hp hl
       have q32:f 1= .slice (some ⟨gt,0,none⟩) n cp:=tellG hp 0 1 rfl rfl (fun h=>by cases h)
       have q33:f 2= .int .i64 (i:Int):=tellG hp 1 2 rfl rfl (fun h=>by cases h)
       simp only[OpGoal];go_simp;exact⟨_,rfl,Ext.refl _,rfl⟩
      ·intro f w2 hG hp hl
       have q44:f 13= .pointer (some ⟨gt,i*4,none⟩):=tellG hp 0 13 rfl rfl (fun h=>by cases h)
       simp only[OpGoal];go_simp;exact⟨_,rfl,Ext.refl _,rfl⟩
      ·intro f w2 hG hp hl;have hE:Ext wr w2:=hG;have hS:=hE.size
       have q45:f 14= .pointer (some ⟨gt,i*4+1,none⟩):=tellG hp 0 14 rfl rfl (fun h=>by cases h)
       have q43:=tellG hp 1 12 rfl rfl (fun _=>hE);intro hg0;change OpGoal _ _ _ f w2 (Chg _) _;obtain⟨b9,ad1,m1,x1,ad2,m2,x2,hv,hfq⟩:=FrQ.opn q43;exact og_storeAt (P:=Tryz.prog) gt (i*4+1) 96 _ cur #[.bool b9,.slice ad1 m1 x1,.slice ad2 m2 x2] _ _ rfl rfl q45 hv (by kernel_rfl) (show Bx 96 w2 _ _ from hg0.trans hcur) (show i*4+1+3≤cur.length by omega) (all3 rfl rfl rfl) (fun w' hc hb u=>⟨⟨tc,b9,ad1,m1,x1,ad2,m2,x2⟩,rfl,hfq.chg hc (by omega),by rw[laidS_next HCC.out]at hb;exact hb⟩)
     ·intro f w3 hG hp;have hz0:=endGS hp 15 (by decide);clear hp;have hC:Chg gt wr w3:=ChgS.one hG;have hto:=hJ.out.t0.put HH.out.1 hcur hC hz0 (by omega) HQZ.out;rw[HQQ.out,HH.out.2]at hto;have hcB:=hcur
      have hJ3:SclJ w w3 g3 g4 gt (w.heap.size+2) (2*K) n cp s b' a1' n1' c1' a2' n2' c2' bq a1q n1q c1q a2q n2q c2q by_ x (halfV (1 / leadA m) m (i+1)):=
       ⟨hJ.out.e0.step hC (by omega),hto,hZ.chgK hC hcB (by decide),hf.chgK hC hcB (by decide),hQ.chgK hC hcB (by decide),hJ.out.f0.chgB hC hcB (by decide),hJ.out.x0.chgB hC hcB (by decide)⟩
      have HJ3:=Lib.hid hJ3;have hs3:=hC.size;clear hto hJ3 hG hC hz0 hf1 hcur;go_wp2;go_roundw
      case rel=>exact ⟨i+1,by omega,congrArg (Value.int .i64) (by omega),HJ3,by omega⟩
      case measure=>simp [intOf];omega
end Go.Proofs.YtokfaggcojokgaaGreat
