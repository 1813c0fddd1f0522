/-
 One constraint told of bounds (model.told's closure).
-/
import Derived.Test.YtbmnlaepfckmkaaGreatMdaZ
import Derived.Test.YtbmnlaepfckmkaaGreatPlaZ
import Derived.Test.YtbmnlaepfckmkaaGreatVfcZ
import Derived.Laws.AppendOwnNone
namespace Go.Proofs.YtbmnlaepfckmkaaGreat
set_option maxRecDepth 100000
set_option maxHeartbeats 1000000
open Go.RowKit
set_option linter.unusedVariables false
set_option linter.unusedSimpArgs false
theorem CnO.keepT{B K:Nat}{w w':World}{v:Value}{c:CR}(h:CnO B K w v c)(hk:KeepT w w'):CnO B K w' v c:=by
 obtain⟨a,n,cp,b,a1,n1,c1,a2,n2,c2,h1,h2,h3,h4⟩:=h;exact⟨a,n,cp,b,a1,n1,c1,a2,n2,c2,h1,h2.keepT hk,h3.keepT hk,h4⟩
theorem Ext.keepT{w w':World}(h:Ext w w'):KeepT w w':=fun t g cs _ hx=>hx.ext h
theorem grown_keepT{r:Option Nat}{w w':World}(h:w.grownBy w' r)(hr:∀g,r=some g→∃cs,Bx 46 w g cs):KeepT w w':=by
 cases r with
 |none=>exact Ext.keepT h
 |some g=>
  obtain⟨cs,hb⟩:=hr g rfl
  refine(Chg.one h).keepT fun x hx=> ?_
  rw[List.mem_singleton]at hx;subst hx;exact⟨_,cs,hb,by decide,by decide⟩
def CoL(B K:Nat)(w:World)(v:Value)(cs:List CR):Prop:=OL 46 5 B (CnO B K) w v cs
theorem CoL.ext{B K:Nat}{w w':World}{v:Value}{cs:List CR}(h:CoL B K w v cs)(he:Ext w w'):CoL B K w' v cs:=OL.ext h he fun _ _ h=>h.ext he
theorem CoL.fin{B K n:Nat}{w w':World}{v':Value}{vs:List Value}{cs:List CR}{c:CR}{cells:Array Value}(hst:StrN 5 vs)(hl:vs.length=cs.length)(hn:vs.length=n)(he:∀(i:Nat) (u:Value) (y:CR),vs[i]? =some u→cs[i]? =some y→CnO B K w u y)(hc:CnO B K w (.agg cells) c)
  (h1:w'.ownsRow B 46 5 v' (n+1) (flatS vs++cells.toList)) (hk:KeepT w w') (h5:cells.size=5) (ho:cells.all (·.oneCell')=true):CoL B K w' v' (cs++ [c]):=by
 refine⟨vs++ [.agg cells],⟨hst.app (.one h5 ho),?_⟩,by rw[List.length_append,List.length_append,hl];rfl,fun i u x hu hx=> ?_⟩
 ·have e:flatS (vs++ [.agg cells])=flatS vs++cells.toList:=by
   rw[flatS_append]
   show flatS vs++(cells.toList++ [])=_
   rw[List.append_nil]
  rw[e,List.length_append,hn];exact h1
 ·by_cases hin:i<vs.length
  ·rw[List.getElem?_append_left hin]at hu;rw[List.getElem?_append_left (by omega)]at hx;exact(he i u x hu hx).keepT hk
  ·have hil:=(List.getElem?_eq_some_iff.1 hu).1;rw[List.length_append]at hil
   have hie:i=vs.length:=by simp only[List.length_cons,List.length_nil]at hil;omega
   subst hie;rw[List.getElem?_concat_length]at hu;rw[hl,List.getElem?_concat_length]at hx
   cases hu
   cases hx
   exact hc.keepT hk
theorem CoL.chg{B K g:Nat}{w w':World}{v:Value}{cs:List CR}(h:CoL B K w v cs)(hc:Chg g w w')(hg:g<B):CoL B K w' v cs:=by
 obtain⟨vs,h1,h2,h3⟩:=h;refine⟨vs,⟨h1.1,h1.2.1,?_⟩,h2,fun i u y a b=>(h3 i u y a b).chg hc hg⟩
 rcases h1.2.2 with h |⟨g',cap,cur,k1,k2,k3,k4⟩
 ·exact .inl h
 ·exact .inr ⟨g',cap,cur,k1,k2,hc.blk k3 (by omega),k4⟩
def PP.oneC{S:Nat}(K:Nat)(c:CR):PP S:=⟨false,fun u w=>∃g cells,S≤g∧u= .slice (some ⟨g,0,none⟩) 1 1∧Bx 46 w g cells∧CnO S K w (.agg cells) c,fun _ _ _ h hp=>(let ⟨g,cs,h1,h2,h3,h4⟩:=hp;⟨g,cs,h1,h2,h3.ext h,h4.ext h⟩),fun _ _ hg _ _ _ h hp=>(let ⟨g,cs,h1,h2,h3,h4⟩:=hp;⟨g,cs,h1,h2,h3.chg h (by omega),h4.chg h hg⟩)⟩
def ToldAt(K:Nat)(w:World)(go:Nat)(cs:List CR):Prop:=∃hv,Bx 29 w go #[hv]∧CoL (go+1) K w hv cs
theorem ToldAt.ext{K go:Nat}{w w':World}{cs:List CR}(h:ToldAt K w go cs)(he:Ext w w'):ToldAt K w' go cs:=by
 obtain⟨hv,h1,h2⟩:=h;exact⟨hv,h1.ext he,h2.ext he⟩
set_option maxHeartbeats 2000000 in
theorem toldc_calls(k K go gt:Nat)(s:Int)(v:Value)(x:Rat)(l:List (Int×Rat)){ta:Option Addr}{tn tc:Nat}(cs:List CR)(w:World)(hO:ToldAt K w go cs)(hT:Bx 31 w gt #[.slice ta tn tc])(ht:TL k w (.slice ta tn tc) l)(hx:IsR w v x k)(hcs:cs.length≤10)(hn:l.length≤1073741824)(hk:(l.length+1)*(k+1)≤34359738000)(hK:(l.length+1)*(k+1)≤K):
  Calls Tryz.prog 154 #[.int .i64 s,v,.pointer (some ⟨go,0,none⟩),.pointer (some ⟨gt,0,none⟩)] w fun e w'=>e= .returned (.tuple #[])∧ToldAt K w' go (cs++ [(s,mkV l,x)])∧∀a,Ext a w→a.heap.size≤go→Ext a w':=by
 obtain⟨q,rfl⟩:=hx.qc;unfold qv at hx ⊢;obtain⟨b,a1,n1,c1,a2,n2,c2⟩:=q
 simp only at hx ⊢
 obtain⟨hv,hB,vs,hLS,hvl,hve⟩:=hO;obtain⟨ad,cap,rfl⟩:=ownsRow_lenP hLS.2;obtain⟨n,hvn⟩:∃n,n=vs.length:=⟨_,rfl⟩;rw[←hvn]at hB hLS
 have hn10:n≤10:=by rw[hvn,hvl];exact hcs
 have hkk:k+1≤(l.length+1)*(k+1):=Nat.le_mul_of_pos_left _ (by omega);have hlk:l.length*(k+1)≤(l.length+1)*(k+1):=Nat.mul_le_mul_right _ (by omega);have hkK:k+1≤K:=Nat.le_trans hkk hK;have hlK:l.length*(k+1)≤K:=Nat.le_trans hlk hK;have hkM:k+1≤34359738000:=Nat.le_trans hkk hk;obtain⟨w1,hw1,e1,b1_,s1⟩:=alloc1 w #[.bool b,.slice a1 n1 c1,.slice a2 n2 c2] 41
 have hs1:w1.heap.size=w.heap.size+1:=s1
 have hgo:go<w1.heap.size:=by have:=hB.lt;omega
 have HO:Hid (w1.ownsRow (go+1) 46 5 (.slice ad n cap) n (flatS vs)):=Lib.hid (by have:=ownsRow_extI hLS.2 e1;rwa [←hvn]at this);have HV:=Lib.hid (And.intro hLS.1 (And.intro hvl (And.intro hvn.symm (fun(i:Nat) (u:Value) (y:CR) (a:vs[i]? =some u) (b:cs[i]? =some y)=>(hve i u y a b).ext e1))));have BO:=hB.ext e1;have BT:=hT.ext e1;have HT:=Lib.hid (ht.ext e1);have HX:=Lib.hid (hx.ext e1);have HXS:Hid (szQ x≤K):=Lib.hid (by have:=hx.sz;omega);have HK:=Lib.hid hk
 have HBK:Hid (∀g,(Value.slice ad n cap).ownBlock=some g→∃cs,Bx 46 w1 g cs):=Lib.hid fun g hg=>by
  rcases HO.out.2 with⟨h1,h2⟩ |⟨g',cap',cur,h1,h2,h3,h4⟩
  ·rw[h1]at hg;cases hg
  ·rw[h1]at hg;simp only[Value.ownBlock,Option.some.injEq]at hg;subst hg;exact⟨cur,h3⟩
 have HNG:Hid (∀g,(Value.slice ad n cap).ownBlock=some g→g<w1.heap.size∧g≠go):=Lib.hid fun g hg=>by
  obtain⟨cs',hb⟩:=HBK.out g hg
  exact⟨hb.lt,fun e=>by
   have:=ownsRow_ge HO.out g hg
   omega⟩
 have HGE:Hid (∀g,(Value.slice ad n cap).ownBlock=some g→go+1≤g):=Lib.hid fun g hg=>ownsRow_ge HO.out g hg
 clear hLS hvl hve hvn hB hT ht hx hk hcs
 go_enter Tryz.func154,Tryz.ntmps154
 go_wp2_with fail;rw[←hw1];clear hw1
 refine wp_region_hand ((Value.slice ad n cap).ownBlock) go 8 9 (fun v b=>CoL (go+1) K b v (cs++ [(s,mkV l,x)])) (fun u b=>Bx 29 b go #[u]) [PP.val (.slice ad n cap),PP.val (.int .i64 s),PP.val (.slice ta tn tc),PP.tO K (mkV l),PP.val (.agg #[.bool b,.slice a1 n1 c1,.slice a2 n2 c2]),PP.frQ x,PP.cnO K (s,mkV l,x),PP.oneC K (s,mkV l,x),PP.any,PP.any] [] [8,7,6,5,4,3,2,1,0] (by kernel_rfl) (by kernel_rfl) (fun f=>(by simp only[fillR,fillL,List.setIfInBounds_toArray,List.set_cons_succ,List.set_cons_zero,Nat.reduceAdd];rfl)) (by decide) (fun g hg=>HNG.out g hg) (hgo) (fun u w1 w2 h hp=>hp.ext h) (fun u w1 w2 h hp=>hp.chg h (Nat.lt_succ_self _)) (fun u w1 w2 h hp=>hp.ext h) (by intro p hp;simp only[List.mem_cons,List.not_mem_nil,or_false]at hp;rcases hp with rfl |rfl |rfl |rfl |rfl |rfl |rfl |rfl |rfl |rfl<;>rfl) (fun _ _=>trivial) ?_ ?_ (by decide) (by decide)
 ·refine⟨?_,?_,?_,?_,?_,?_,?_,?_,?_,?_,trivial⟩
  ·intro f w2 hG hp hl;have hE:Ext w1 w2:=hG;have hcell:=(BO.ext hE).cell 0;simp only[OpGoal];go_simp;exact⟨_,rfl,Ext.refl _,rfl⟩
  ·intro f w2 hG hp hl;simp only[OpGoal];go_simp;exact⟨_,rfl,Ext.refl _,rfl⟩
  ·intro f w2 hG hp hl;have hE:Ext w1 w2:=hG;have hcell:=(BT.ext hE).cell 0;simp only[OpGoal];go_simp;exact⟨_,rfl,Ext.refl _,rfl⟩
  ·intro f w2 hG hp hl;have hE:Ext w1 w2:=hG;have hS:=hE.size
   have q8:f 2= .slice ta tn tc:=tellO hp 0 2 rfl rfl
   change OpGoal _ _ _ f w2 Ext _;refine oC #[f 2] Tryz.func85 rfl rfl ?_;rw[q8];refine(vmake_calls k _ l _ (HT.out.ext hE) (by omega) HK.out).mono ?_;rintro e w' ⟨v',rfl,h1,h2⟩;exact⟨v',rfl,h2,(h1.mono hS).le (by omega)⟩
  ·intro f w2 hG hp hl;have hE:Ext w1 w2:=hG;change OpGoal _ _ _ f w2 Ext _;exact og_load (P:=Tryz.prog) _ _ w.heap.size _ _ _ rfl rfl rfl (b1_.ext hE) Tryz.underlying41 rfl (by kernel_rfl) rfl
  ·intro f w2 hG hp hl;have hE:Ext w1 w2:=hG;have hS:=hE.size
   have q10:f 4= .agg #[.bool b,.slice a1 n1 c1,.slice a2 n2 c2]:=tellO hp 0 4 rfl rfl
   change OpGoal _ _ _ f w2 Ext _;refine oC #[f 4] Tryz.func141 rfl rfl ?_;rw[q10];refine(form_calls _ x k _ (HX.out.ext hE) (by omega)).mono ?_;rintro e w' ⟨v',rfl,h1,h2⟩;exact⟨v',rfl,h2,h1.mono hS⟩
  ·intro f w2 hG hp hl
   have q7:f 1= .int .i64 s:=tellO hp 0 1 rfl rfl
   have q9:=tellO hp 1 3 rfl rfl;have q11:=tellO hp 2 5 rfl rfl;obtain⟨ad1,cap1,hv⟩:=TO.val q9;obtain⟨s',t',hv2,hn2,hm2⟩:=q11;obtain⟨ad1,cap1,hv3⟩:=FrN.slice hn2;obtain⟨ad2,cap2,hv4⟩:=FrN.slice hm2;subst hv3 hv4;simp only[OpGoal];go_simp;exact⟨_,rfl,Ext.refl _,_,_,_,_,_,_,_,_,_,_,rfl,hv▸q9,⟨_,_,rfl,hn2,hm2⟩,HXS.out⟩
  ·intro f w2 hG hp hl;have hE:Ext w1 w2:=hG;have hS:=hE.size;have q12:=tellO hp 0 6 rfl rfl;have q12':=q12;obtain⟨a',n',p',b',a1',n1',c1',a2',n2',c2',hv, -⟩:=q12';rw[hv]at q12;change OpGoal _ _ _ f w2 Ext _;exact og_buildSlice (P:=Tryz.prog) 29 46 1 5 _ [.agg #[.int .i64 s,.slice a' n' p',.bool b',.slice a1' n1' c1',.slice a2' n2' c2']] rfl rfl Tryz.underlying29 (by kernel_rfl) (by kernel_rfl) (by simp only[Act.eval];exact congrArg (fun z=> [(0,z)]) hv) rfl (by omega) (by omega) (by omega) (StrN.one rfl (all5 rfl rfl rfl rfl rfl)).size (fun w' he hb=>⟨_,_,hS,rfl,hb,q12.ext he⟩)
  ·intro f w2 hG hp hl;have hE:Ext w1 w2:=hG;have hS:=hE.size
   have q6:f 0= .slice ad n cap:=tellO hp 0 0 rfl rfl
   have q13:=tellO hp 1 7 rfl rfl
   have qL:f 0= .slice ad n cap:=tellO hp 0 0 rfl rfl
   obtain⟨gx,cells,hgx,hvx,hbx,hcx⟩:=tellO hp 1 7 rfl rfl;have hcx5:=hcx;obtain⟨a',n',p',b',a1',n1',c1',a2',n2',c2',hcv, -⟩:=hcx5
   cases hcv
   change OpGoal _ _ _ f w2 (fun a b=>a.grownBy b _) _
   refine og_append (P:=Tryz.prog) _ _ 29 rfl rfl (go+1) 46 5 88 Tryz.underlying29 (by kernel_rfl) (by kernel_rfl) (by omega) (.slice ad n cap) n (flatS vs) qL (ownsRow_extI HO.out hE) ⟨gx,0,none⟩ 1 1 [.int .i64 s,.slice a' n' p',.bool b',.slice a1' n1' c1',.slice a2' n2' c2'] hvx rfl (fun j u hj=>by rw[addr_add,Nat.zero_add,hbx.cell];simpa using hj) (by intro u hu;simp at hu;rcases hu with rfl |rfl |rfl |rfl |rfl<;>rfl) (by omega) (by unfold maxLen;omega) (by omega) (by have:=hE.size;omega) (fun v' w' h1 h2 h3=>⟨h2,?_⟩)
   exact CoL.fin HV.out.1 HV.out.2.1 HV.out.2.2.1 (fun i u y a b=>(HV.out.2.2.2 i u y a b).ext hE) (hcx.mono (by omega)) h1 (grown_keepT h2 fun g hg=>(HBK.out g hg).imp fun cs hb=>hb.ext hE) rfl (all5 rfl rfl rfl rfl rfl)
  ·intro f w2 hG hp hl;have hS:w1.heap.size≤w2.heap.size:=hG.2.2.2.1;have hf8:=tellOS hp 0 rfl;obtain⟨vz,hlz, -⟩:=hf8;obtain⟨az,cz,hvz⟩:=ownsRow_lenP hlz.2;change OpGoal _ _ _ f w2 (Chg go) (fun(_:Value) w3=>Bx 29 w3 go #[f 8]);refine og_store1 (P:=Tryz.prog) go 0 29 _ [.slice ad n cap] _ _ _ _ _ rfl rfl rfl hvz (by kernel_rfl) (BO.chgS hG (fun hm=>(HNG.out go (by simpa using hm)).2 rfl)) (Nat.lt_succ_self _) (fun w' h _=>by rw[hvz];exact h)
 ·intro f w2 hC hF1 hH1 hp;clear hp
  have HE:=Lib.hid (show∀a,Ext a w→a.heap.size≤go→Ext a w2 from fun a ha hag=>(ha.trans e1).stepS hC (fun g hm=>by
   rcases List.mem_append.1 hm with h |h
   ·have:=HGE.out g (by simpa using h)
    omega
   ·rw[List.mem_singleton]at h
    omega))
  have HF:=Lib.hid (show ToldAt K w2 go (cs++ [(s,mkV l,x)])from⟨_,hH1,hF1⟩);clear hC hF1 hH1;go_wp2;refine bodyPost_end (results_none (by kernel_rfl) _ _ _) rfl ?_;exact⟨rfl,HF.out,HE.out⟩
theorem ret_cell1{P:Program}{fn:Func}{R:Ending→World→Prop}{a:Act}{w:World}(p:Tmp)(ty:TypeId)(g:Nat)(t:TypeId)(v:Value)(e:TypeId)(h:fn.results=#[.cell p ty])(hp:a.tmps.getD p undef= .pointer (some ⟨g,0,none⟩))(hg:Bx t w g #[v])
  (hu:P.underlying ty=some (.slice e)) (hdf:a.defers=[]) (hR:R (.returned v) w):bodyPost P fn R .ret a w:=by
 refine bodyPost_ret (v:=v) ?_ hdf hR
 have hp':a.tmps[p]?.getD undef= .pointer (some ⟨g,0,none⟩):=by simpa using hp
 have hc:w.cell? ⟨g,0,none⟩=some v:=hg.cell 0
 simp[results,h,hp',asAddr,loadVar,isAgg,Go.underlying,hu,hc]
def toldS(s:SpR)(tight:Bool)(l:List (Int×Rat)):List CR:=
 if(tight&&s.1&&s.2.1&&decide (s.2.2.1=s.2.2.2))=true then [(3,mkV l,s.2.2.1)]else(if s.1 then [(2,mkV l,s.2.2.1)]else [])++(if s.2.1 then [(1,mkV l,s.2.2.2)]else [])
set_option maxHeartbeats 2000000 in
theorem told_calls(k K:Nat)(l h:QC)(s:SpR)(tight:Bool){ta:Option Addr}{tn tc:Nat}(ls:List (Int×Rat))(w:World)(hS:SpV k w l h s)(ht:TL k w (.slice ta tn tc) ls)(hn:ls.length≤1073741824)(hk:(ls.length+1)*(k+1)≤34359738000)(hK:(ls.length+1)*(k+1)≤K):
  Calls Tryz.prog 81 #[.slice ta tn tc,.agg #[.bool s.1,.bool s.2.1,.bool l.b,.slice l.a1 l.n1 l.c1,.slice l.a2 l.n2 l.c2,.bool h.b,.slice h.a1 h.n1 h.c1,.slice h.a2 h.n2 h.c2],.bool tight] w fun e w'=>∃v',e= .returned v'∧CoL (w.heap.size+3) K w' v' (toldS s tight ls)∧(toldS s tight ls=[]→v'= .slice none 0 0)∧Ext w w':=by
 obtain⟨b1,b2,lo,hi⟩:=s
 simp only
 have hmf:∀(fn:Fn) (first cap:Array Value) (w:World),(Instr.makeFunc fn first cap).run Tryz.prog w= .ok (.func fn first cap) w:=fun _ _ _ _=>rfl
 have hkk:k+1≤34359738000:=Nat.le_trans (Nat.le_mul_of_pos_left _ (by omega)) hk;obtain⟨wa,hwa,ea,bT,bS,sa⟩:=alloc2 w #[.slice ta tn tc] #[.bool b1,.bool b2,.bool l.b,.slice l.a1 l.n1 l.c1,.slice l.a2 l.n2 l.c2,.bool h.b,.slice h.a1 h.n1 h.c1,.slice h.a2 h.n2 h.c2] 31 107
 have sa':wa.heap.size=w.heap.size+2:=sa
 obtain⟨w1,hw1,e1,bO,s1⟩:=alloc1 wa #[.slice none 0 0] 29;rw[sa']at bO;rw[hwa]at hw1;have HT:=Lib.hid (ht.ext ea);have HLO:=Lib.hid (hS.1.ext ea);have HHI:=Lib.hid (hS.2.ext ea)
 simp only at HLO HHI
 have HK:=Lib.hid (And.intro hk hK);have E1:=Lib.hid e1;have T1:Hid (ToldAt K w1 (w.heap.size+2) []):=Lib.hid ⟨_,bO,OL.nil _ _ _ _ _⟩;have hb:=bS.ext e1;have ha0:=hb.cell 0;have ha1:=hb.cell 1;have ha2:=hb.cell 2;have ha3:=hb.cell 3;have ha4:=hb.cell 4;have ha5:=hb.cell 5;have ha6:=hb.cell 6;have ha7:=hb.cell 7;rw[hw1]at ha0 ha1 ha2 ha3 ha4 ha5 ha6 ha7;clear hb ht hS hk hK e1
 go_enter Tryz.func81,Tryz.ntmps81
 cases tight with
 |false=>
  cases b1 with
  |false=>
   cases b2 with
   |false=>
    have HV:Hid (toldS (false,false,lo,hi) false ls=[]):=Lib.hid (by simp[toldS])
    obtain⟨hv,hB,hL⟩:=T1.out;have bO':=bO;go_wp2;rw[←hw1];refine ret_cell1 6 29 (w.heap.size+2) 29 _ 46 (by kernel_rfl) rfl bO Tryz.underlying29 rfl ?_;exact⟨_,rfl,by rw[HV.out];exact OL.nil _ _ _ _ _,fun _=>rfl,ea.trans E1.out⟩
   |true=>
    have HV:Hid (toldS (false,true,lo,hi) false ls=[(1,mkV ls,hi)]):=Lib.hid (by simp[toldS])
    go_wp2_with fail;rw[←hw1];refine(toldc_calls k K (w.heap.size+2) w.heap.size 1 _ hi ls [] w1 T1.out (bT.ext E1.out) (HT.out.ext E1.out) (HHI.out.ext E1.out) (by simp) hn HK.out.1 HK.out.2).mono ?_;rintro e w2 ⟨rfl,t',x'⟩;have E2:Hid (Ext wa w2):=Lib.hid (x' wa E1.out (by omega));have T2:=Lib.hid t';have hb:=bS.ext E2.out;clear x' t' ha0 ha1 ha2 ha3 ha4 ha5 ha6 ha7;have ha0:=hb.cell 0;have ha1:=hb.cell 1;have ha2:=hb.cell 2;have ha3:=hb.cell 3;have ha4:=hb.cell 4;have ha5:=hb.cell 5;have ha6:=hb.cell 6;have ha7:=hb.cell 7;clear hb;obtain⟨hv,hB,hL⟩:=T2.out
    obtain⟨ad,cap,rfl⟩:∃ad cap,hv= .slice ad 1 cap:=by
     obtain⟨vs,hLS,hvl, -⟩:=hL;obtain⟨ad,cap,h⟩:=ownsRow_lenP hLS.2;exact⟨ad,cap,by rw[h,hvl];rfl⟩
    have hcc:=hB.cell 0;have hcf:=hB.free 0;have HL':=Lib.hid hL;have hgB:=hB.lt;clear hL;go_wp2;refine ret_cell1 6 29 (w.heap.size+2) 29 _ 46 (by kernel_rfl) rfl (hB.set 0 _) Tryz.underlying29 rfl ?_;have hch:=Chg.setCell w2 (w.heap.size+2) 0 (.slice ad 1 cap);exact⟨_,rfl,by rw[HV.out];exact HL'.out.chg hch (by omega),by rw[HV.out];exact fun h=>by simp at h,(ea.trans E2.out).step hch (by omega)⟩
  |true=>
   cases b2 with
   |false=>
    have HV:Hid (toldS (true,false,lo,hi) false ls=[(2,mkV ls,lo)]):=Lib.hid (by simp[toldS])
    go_wp2_with fail;rw[←hw1];refine(toldc_calls k K (w.heap.size+2) w.heap.size 2 _ lo ls [] w1 T1.out (bT.ext E1.out) (HT.out.ext E1.out) (HLO.out.ext E1.out) (by simp) hn HK.out.1 HK.out.2).mono ?_;rintro e w2 ⟨rfl,t',x'⟩;have E2:Hid (Ext wa w2):=Lib.hid (x' wa E1.out (by omega));have T2:=Lib.hid t';have hb:=bS.ext E2.out;clear x' t' ha0 ha1 ha2 ha3 ha4 ha5 ha6 ha7;have ha0:=hb.cell 0;have ha1:=hb.cell 1;have ha2:=hb.cell 2;have ha3:=hb.cell 3;have ha4:=hb.cell 4;have ha5:=hb.cell 5;have ha6:=hb.cell 6;have ha7:=hb.cell 7;clear hb;obtain⟨hv,hB,hL⟩:=T2.out
    obtain⟨ad,cap,rfl⟩:∃ad cap,hv= .slice ad 1 cap:=by
     obtain⟨vs,hLS,hvl, -⟩:=hL;obtain⟨ad,cap,h⟩:=ownsRow_lenP hLS.2;exact⟨ad,cap,by rw[h,hvl];rfl⟩
    have hcc:=hB.cell 0;have hcf:=hB.free 0;have HL':=Lib.hid hL;have hgB:=hB.lt;clear hL;go_wp2;refine ret_cell1 6 29 (w.heap.size+2) 29 _ 46 (by kernel_rfl) rfl (hB.set 0 _) Tryz.underlying29 rfl ?_;have hch:=Chg.setCell w2 (w.heap.size+2) 0 (.slice ad 1 cap);exact⟨_,rfl,by rw[HV.out];exact HL'.out.chg hch (by omega),by rw[HV.out];exact fun h=>by simp at h,(ea.trans E2.out).step hch (by omega)⟩
   |true=>
    have HV:Hid (toldS (true,true,lo,hi) false ls=[(2,mkV ls,lo),(1,mkV ls,hi)]):=Lib.hid (by simp[toldS])
    go_wp2_with fail;rw[←hw1];refine(toldc_calls k K (w.heap.size+2) w.heap.size 2 _ lo ls [] w1 T1.out (bT.ext E1.out) (HT.out.ext E1.out) (HLO.out.ext E1.out) (by simp) hn HK.out.1 HK.out.2).mono ?_;rintro e w2 ⟨rfl,t',x'⟩;have E2:Hid (Ext wa w2):=Lib.hid (x' wa E1.out (by omega));have T2:=Lib.hid t';have hb:=bS.ext E2.out;clear x' t' ha0 ha1 ha2 ha3 ha4 ha5 ha6 ha7;have ha0:=hb.cell 0;have ha1:=hb.cell 1;have ha2:=hb.cell 2;have ha3:=hb.cell 3;have ha4:=hb.cell 4;have ha5:=hb.cell 5;have ha6:=hb.cell 6;have ha7:=hb.cell 7;clear hb;go_wp2_with fail;refine(toldc_calls k K (w.heap.size+2) w.heap.size 1 _ hi ls [(2,mkV ls,lo)] w2 T2.out (bT.ext E2.out) (HT.out.ext E2.out) (HHI.out.ext E2.out) (by simp) hn HK.out.1 HK.out.2).mono ?_;rintro e w3 ⟨rfl,t',x'⟩;have E3:Hid (Ext wa w3):=Lib.hid (x' wa E2.out (by omega));have T3:=Lib.hid t';have hb:=bS.ext E3.out;clear x' t' ha0 ha1 ha2 ha3 ha4 ha5 ha6 ha7;have ha0:=hb.cell 0;have ha1:=hb.cell 1;have ha2:=hb.cell 2;have ha3:=hb.cell 3;have ha4:=hb.cell 4;have ha5:=hb.cell 5;have ha6:=hb.cell 6;have ha7:=hb.cell 7;clear hb;obtain⟨hv,hB,hL⟩:=T3.out
    obtain⟨ad,cap,rfl⟩:∃ad cap,hv= .slice ad 2 cap:=by
     obtain⟨vs,hLS,hvl, -⟩:=hL;obtain⟨ad,cap,h⟩:=ownsRow_lenP hLS.2;exact⟨ad,cap,by rw[h,hvl];rfl⟩
    have hcc:=hB.cell 0;have hcf:=hB.free 0;have HL':=Lib.hid hL;have hgB:=hB.lt;clear hL;go_wp2;refine ret_cell1 6 29 (w.heap.size+2) 29 _ 46 (by kernel_rfl) rfl (hB.set 0 _) Tryz.underlying29 rfl ?_;have hch:=Chg.setCell w3 (w.heap.size+2) 0 (.slice ad 2 cap);exact⟨_,rfl,by rw[HV.out];exact HL'.out.chg hch (by omega),by rw[HV.out];exact fun h=>by simp at h,(ea.trans E3.out).step hch (by omega)⟩
 |true=>
  cases b1 with
  |false=>
   cases b2 with
   |false=>
    have HV:Hid (toldS (false,false,lo,hi) true ls=[]):=Lib.hid (by simp[toldS])
    obtain⟨hv,hB,hL⟩:=T1.out;have bO':=bO;go_wp2;rw[←hw1];refine ret_cell1 6 29 (w.heap.size+2) 29 _ 46 (by kernel_rfl) rfl bO Tryz.underlying29 rfl ?_;exact⟨_,rfl,by rw[HV.out];exact OL.nil _ _ _ _ _,fun _=>rfl,ea.trans E1.out⟩
   |true=>
    have HV:Hid (toldS (false,true,lo,hi) true ls=[(1,mkV ls,hi)]):=Lib.hid (by simp[toldS])
    go_wp2_with fail;rw[←hw1];refine(toldc_calls k K (w.heap.size+2) w.heap.size 1 _ hi ls [] w1 T1.out (bT.ext E1.out) (HT.out.ext E1.out) (HHI.out.ext E1.out) (by simp) hn HK.out.1 HK.out.2).mono ?_;rintro e w2 ⟨rfl,t',x'⟩;have E2:Hid (Ext wa w2):=Lib.hid (x' wa E1.out (by omega));have T2:=Lib.hid t';have hb:=bS.ext E2.out;clear x' t' ha0 ha1 ha2 ha3 ha4 ha5 ha6 ha7;have ha0:=hb.cell 0;have ha1:=hb.cell 1;have ha2:=hb.cell 2;have ha3:=hb.cell 3;have ha4:=hb.cell 4;have ha5:=hb.cell 5;have ha6:=hb.cell 6;have ha7:=hb.cell 7;clear hb;obtain⟨hv,hB,hL⟩:=T2.out
    obtain⟨ad,cap,rfl⟩:∃ad cap,hv= .slice ad 1 cap:=by
     obtain⟨vs,hLS,hvl, -⟩:=hL;obtain⟨ad,cap,h⟩:=ownsRow_lenP hLS.2;exact⟨ad,cap,by rw[h,hvl];rfl⟩
    have hcc:=hB.cell 0;have hcf:=hB.free 0;have HL':=Lib.hid hL;have hgB:=hB.lt;clear hL;go_wp2;refine ret_cell1 6 29 (w.heap.size+2) 29 _ 46 (by kernel_rfl) rfl (hB.set 0 _) Tryz.underlying29 rfl ?_;have hch:=Chg.setCell w2 (w.heap.size+2) 0 (.slice ad 1 cap);exact⟨_,rfl,by rw[HV.out];exact HL'.out.chg hch (by omega),by rw[HV.out];exact fun h=>by simp at h,(ea.trans E2.out).step hch (by omega)⟩
  |true=>
   cases b2 with
   |false=>
    have HV:Hid (toldS (true,false,lo,hi) true ls=[(2,mkV ls,lo)]):=Lib.hid (by simp[toldS])
    go_wp2_with fail;rw[←hw1];refine(toldc_calls k K (w.heap.size+2) w.heap.size 2 _ lo ls [] w1 T1.out (bT.ext E1.out) (HT.out.ext E1.out) (HLO.out.ext E1.out) (by simp) hn HK.out.1 HK.out.2).mono ?_;rintro e w2 ⟨rfl,t',x'⟩;have E2:Hid (Ext wa w2):=Lib.hid (x' wa E1.out (by omega));have T2:=Lib.hid t';have hb:=bS.ext E2.out;clear x' t' ha0 ha1 ha2 ha3 ha4 ha5 ha6 ha7;have ha0:=hb.cell 0;have ha1:=hb.cell 1;have ha2:=hb.cell 2;have ha3:=hb.cell 3;have ha4:=hb.cell 4;have ha5:=hb.cell 5;have ha6:=hb.cell 6;have ha7:=hb.cell 7;clear hb;obtain⟨hv,hB,hL⟩:=T2.out
    obtain⟨ad,cap,rfl⟩:∃ad cap,hv= .slice ad 1 cap:=by
     obtain⟨vs,hLS,hvl, -⟩:=hL;obtain⟨ad,cap,h⟩:=ownsRow_lenP hLS.2;exact⟨ad,cap,by rw[h,hvl];rfl⟩
    have hcc:=hB.cell 0;have hcf:=hB.free 0;have HL':=Lib.hid hL;have hgB:=hB.lt;clear hL;go_wp2;refine ret_cell1 6 29 (w.heap.size+2) 29 _ 46 (by kernel_rfl) rfl (hB.set 0 _) Tryz.underlying29 rfl ?_;have hch:=Chg.setCell w2 (w.heap.size+2) 0 (.slice ad 1 cap);exact⟨_,rfl,by rw[HV.out];exact HL'.out.chg hch (by omega),by rw[HV.out];exact fun h=>by simp at h,(ea.trans E2.out).step hch (by omega)⟩
   |true=>
    go_wp2_with fail;rw[←hw1];refine(rcmp_calls _ _ lo hi k k w1 (HLO.out.ext E1.out) (HHI.out.ext E1.out) (by omega)).mono ?_;rintro e w2 ⟨rfl,e2⟩;have HZ:=Lib.hid (cmpR_zero (a:=lo) (b:=hi));obtain⟨z,hz⟩:∃z,z=cmpR lo hi:=⟨_,rfl⟩;rw[←hz]at HZ ⊢;have E2:=Lib.hid (E1.out.trans e2);have T2:=Lib.hid (T1.out.ext e2);have hb:=bS.ext E2.out;clear hz hw1 e2 bO ha0 ha1 ha2 ha3 ha4 ha5 ha6 ha7;have ha0:=hb.cell 0;have ha1:=hb.cell 1;have ha2:=hb.cell 2;have ha3:=hb.cell 3;have ha4:=hb.cell 4;have ha5:=hb.cell 5;have ha6:=hb.cell 6;have ha7:=hb.cell 7;clear hb
    by_cases hz0:z=0
    ·have HV:Hid (toldS (true,true,lo,hi) true ls=[(3,mkV ls,lo)]):=Lib.hid (by
      have h1:=HZ.out;rw[hz0]at h1
      have h2:decide (lo=hi)=true:=h1.symm
      simp only[toldS];rw[h2]
      rfl)
     subst hz0;go_wp2_with fail;refine(toldc_calls k K (w.heap.size+2) w.heap.size 3 _ lo ls [] w2 T2.out (bT.ext E2.out) (HT.out.ext E2.out) (HLO.out.ext E2.out) (by simp) hn HK.out.1 HK.out.2).mono ?_;rintro e w3 ⟨rfl,t',x'⟩;have E3:Hid (Ext wa w3):=Lib.hid (x' wa E2.out (by omega));have T3:=Lib.hid t';have hb:=bS.ext E3.out;clear x' t' ha0 ha1 ha2 ha3 ha4 ha5 ha6 ha7;have ha0:=hb.cell 0;have ha1:=hb.cell 1;have ha2:=hb.cell 2;have ha3:=hb.cell 3;have ha4:=hb.cell 4;have ha5:=hb.cell 5;have ha6:=hb.cell 6;have ha7:=hb.cell 7;clear hb;obtain⟨hv,hB,hL⟩:=T3.out
     obtain⟨ad,cap,rfl⟩:∃ad cap,hv= .slice ad 1 cap:=by
      obtain⟨vs,hLS,hvl, -⟩:=hL;obtain⟨ad,cap,h⟩:=ownsRow_lenP hLS.2;exact⟨ad,cap,by rw[h,hvl];rfl⟩
     have hcc:=hB.cell 0;have hcf:=hB.free 0;have HL':=Lib.hid hL;have hgB:=hB.lt;clear hL;go_wp2;refine ret_cell1 6 29 (w.heap.size+2) 29 _ 46 (by kernel_rfl) rfl (hB.set 0 _) Tryz.underlying29 rfl ?_;have hch:=Chg.setCell w3 (w.heap.size+2) 0 (.slice ad 1 cap);exact⟨_,rfl,by rw[HV.out];exact HL'.out.chg hch (by omega),by rw[HV.out];exact fun h=>by simp at h,(ea.trans E3.out).step hch (by omega)⟩
    ·have hz1:(z==0)=false:=by simpa using hz0
     have HV:Hid (toldS (true,true,lo,hi) true ls=[(2,mkV ls,lo),(1,mkV ls,hi)]):=Lib.hid (by
      have h1:=HZ.out;rw[hz1]at h1;simp only[toldS];rw[←h1]
      rfl)
     go_wp2_with fail;refine(toldc_calls k K (w.heap.size+2) w.heap.size 2 _ lo ls [] w2 T2.out (bT.ext E2.out) (HT.out.ext E2.out) (HLO.out.ext E2.out) (by simp) hn HK.out.1 HK.out.2).mono ?_;rintro e w3 ⟨rfl,t',x'⟩;have E3:Hid (Ext wa w3):=Lib.hid (x' wa E2.out (by omega));have T3:=Lib.hid t';have hb:=bS.ext E3.out;clear x' t' ha0 ha1 ha2 ha3 ha4 ha5 ha6 ha7;have ha0:=hb.cell 0;have ha1:=hb.cell 1;have ha2:=hb.cell 2;have ha3:=hb.cell 3;have ha4:=hb.cell 4;have ha5:=hb.cell 5;have ha6:=hb.cell 6;have ha7:=hb.cell 7;clear hb;go_wp2_with fail;refine(toldc_calls k K (w.heap.size+2) w.heap.size 1 _ hi ls [(2,mkV ls,lo)] w3 T3.out (bT.ext E3.out) (HT.out.ext E3.out) (HHI.out.ext E3.out) (by simp) hn HK.out.1 HK.out.2).mono ?_;rintro e w4 ⟨rfl,t',x'⟩;have E4:Hid (Ext wa w4):=Lib.hid (x' wa E3.out (by omega));have T4:=Lib.hid t';have hb:=bS.ext E4.out;clear x' t' ha0 ha1 ha2 ha3 ha4 ha5 ha6 ha7;have ha0:=hb.cell 0;have ha1:=hb.cell 1;have ha2:=hb.cell 2;have ha3:=hb.cell 3;have ha4:=hb.cell 4;have ha5:=hb.cell 5;have ha6:=hb.cell 6;have ha7:=hb.cell 7;clear hb;obtain⟨hv,hB,hL⟩:=T4.out
     obtain⟨ad,cap,rfl⟩:∃ad cap,hv= .slice ad 2 cap:=by
      obtain⟨vs,hLS,hvl, -⟩:=hL;obtain⟨ad,cap,h⟩:=ownsRow_lenP hLS.2;exact⟨ad,cap,by rw[h,hvl];rfl⟩
     have hcc:=hB.cell 0;have hcf:=hB.free 0;have HL':=Lib.hid hL;have hgB:=hB.lt;clear hL;go_wp2;refine ret_cell1 6 29 (w.heap.size+2) 29 _ 46 (by kernel_rfl) rfl (hB.set 0 _) Tryz.underlying29 rfl ?_;have hch:=Chg.setCell w4 (w.heap.size+2) 0 (.slice ad 2 cap);exact⟨_,rfl,by rw[HV.out];exact HL'.out.chg hch (by omega),by rw[HV.out];exact fun h=>by simp at h,(ea.trans E4.out).step hch (by omega)⟩
theorem idxG_cases{α:Type}{p:α→Bool}:∀{cs:List α},(idxG p cs= -1∧∀x∈cs,p x=false)∨∃(i:Nat) (x:α),idxG p cs=(i:Int)∧cs[i]? =some x∧p x=true∧∀y∈cs.take i,p y=false
 | []=> .inl ⟨rfl,fun x hx=>by cases hx⟩
 |x::cs=>by
  cases hp:p x with
  |true=>exact .inr ⟨0,x,by unfold idxG;rw[hp];rfl,rfl,hp,fun y hy=>by simp at hy⟩
  |false=>
   rcases idxG_cases (p:=p) (cs:=cs)with⟨h1,h2⟩ |⟨i,y,h1,h2,h3,h4⟩
   ·refine .inl ⟨by unfold idxG;rw[hp,h1];rfl,fun y hy=> ?_⟩
    rcases List.mem_cons.1 hy with rfl |hy
    ·exact hp
    ·exact h2 y hy
   ·refine .inr ⟨i+1,y,?_,by simpa using h2,h3,fun z hz=> ?_⟩
    ·unfold idxG;rw[hp,h1];simp only[Bool.false_eq_true,if_false];rw[if_neg (by omega)]
     omega
    ·rw[List.take_succ_cons]at hz
     rcases List.mem_cons.1 hz with rfl |hz
     ·exact hp
     ·exact h4 z hz
def ltP(N:Nat)(ps:Ps):Ps:=ps.filter fun p=> !decide ((N:Int)≤p.1.c)
theorem ltP_snoc(N:Nat)(ps:Ps)(p:TmC×Rat):ltP N (ps++ [p])=if(N:Int)≤p.1.c then ltP N ps else ltP N ps++ [p]:=by
 unfold ltP;rw[List.filter_append]
 by_cases h:(N:Int)≤p.1.c<;>simp [h]
theorem ltP_all{N:Nat}{ps:Ps}(h:∀p∈ps,¬(N:Int)≤p.1.c):ltP N ps=ps:=by
 unfold ltP;rw[List.filter_eq_self];intro p hp;simp only[Bool.not_eq_true',decide_eq_false_iff_not];exact h p hp
def ltV(N:Nat)(l:List (Int×Rat)):List (Int×Rat):=l.filter fun x=> !decide ((N:Int)≤x.1)
theorem lP_ltP(N:Nat)(ps:Ps):lP (ltP N ps)=ltV N (lP ps):=by
 unfold lP ltP ltV;rw[List.filter_map]
 rfl
theorem LsT.at{B:Nat}{w:World}{v:Value}{ts:List TmC}(h:LS 95 4 B w v (ts.map tmv)):∃ad m cap,m=ts.length∧v= .slice ad m cap∧m≤9223372036854775807∧∀(i:Nat) (t:TmC),ts[i]? =some t→∃g,ad=some ⟨g,0,none⟩∧∀wz,Ext w wz→wz.cell? ⟨g,i*4,none⟩=some (.int .i64 t.c)∧wz.cell? ⟨g,i*4+1,none⟩=some (.bool t.b)∧wz.cell? ⟨g,i*4+2,none⟩=some (.slice t.a1 t.n1 t.c1)∧wz.cell? ⟨g,i*4+3,none⟩=some (.slice t.a2 t.n2 t.c2):=by
 obtain⟨ad,cap,e1,e2,e3, -⟩:=h.opn;rw[List.length_map]at e1 e2;refine⟨ad,ts.length,cap,rfl,e1,by omega,fun i t hi=> ?_⟩;have hil:=(List.getElem?_eq_some_iff.1 hi).1;obtain⟨g,cap',rest,f1,f2,f3,f4,f5,f6⟩:=h.hold (by rw[List.length_map];omega);rw[e1,List.length_map]at f1
 cases f1
 have hH:HoldT g rest w ts:=⟨strN_tmv _,f6⟩;exact⟨g,rfl,fun wz hz=>⟨hH.at hi wz hz 0 _ rfl,hH.at hi wz hz 1 _ rfl,hH.at hi wz hz 2 _ rfl,hH.at hi wz hz 3 _ rfl⟩⟩
set_option maxHeartbeats 2000000 in
theorem mge_calls(t:TmC)(gp N:Nat){n0 n1:ByteArray}{ra:Option Addr}{rn rc:Nat}{va:Option Addr}{vc:Nat}(w:World)(hp:Bx 25 w gp #[.string n0,.string n1,.slice ra rn rc,.slice va N vc]):
  Calls Tryz.prog 80 #[.agg #[.int .i64 t.c,.bool t.b,.slice t.a1 t.n1 t.c1,.slice t.a2 t.n2 t.c2],.pointer (some ⟨gp,0,none⟩)] w fun e w'=>e= .returned (.bool (decide ((N:Int)≤t.c)))∧Ext w w':=by
 obtain⟨w1,hw1,e1,b1_,s1⟩:=alloc1 w #[.int .i64 t.c,.bool t.b,.slice t.a1 t.n1 t.c1,.slice t.a2 t.n2 t.c2] 95;have hb:=hp.ext e1;have ha0:=hb.cell 0;have ha1:=hb.cell 1;have ha2:=hb.cell 2;have ha3:=hb.cell 3;rw[hw1]at ha0 ha1 ha2 ha3;clear hb
 go_enter Tryz.func80,Tryz.ntmps80
 go_wp2;rw[←hw1];go_ret;exact⟨rfl,e1⟩
set_option maxHeartbeats 4000000 in
theorem midx_calls(v:Value)(cs:List TmC)(B gp N:Nat){n0 n1:ByteArray}{ra:Option Addr}{rn rc:Nat}{va:Option Addr}{vc:Nat}(w:World)(h0:LS 95 4 B w v (cs.map tmv))(hp:Bx 25 w gp #[.string n0,.string n1,.slice ra rn rc,.slice va N vc]):
  Calls Tryz.prog 153 #[v,.func (.func 80) #[] #[.pointer (some ⟨gp,0,none⟩)]] w fun e w'=>e= .returned (.int .i64 (idxG (fun t:TmC=>decide ((N:Int)≤t.c)) cs))∧Ext w w':=by
 have h:=LsT.at h0;clear h0;obtain⟨ad,n,cap,hnl,rfl,hn1,hat⟩:=h;have Hn:=Lib.hid hnl;have Hat:=Lib.hid hat;clear hnl hat
 go_enter Tryz.func153,Tryz.ntmps153
 go_wp2_with fail
 go_loopw [8] (fun s8 wr=>∃i:Nat,i≤n∧s8= .int .i64 (i:Int)∧Hid (∀x∈cs.take i,(fun t:TmC=>decide ((N:Int)≤t.c)) x=false)∧Ext w wr) (fun s8 _=>((n:Int) - intOf s8).toNat)
 case atStart=>exact ⟨0,Nat.zero_le _,rfl,Lib.hid (fun x hx=>by simp at hx),Ext.refl _⟩
 case round=>
  obtain⟨i,hi,rfl,hH,hex⟩:=hrel
  rcases Nat.eq_or_lt_of_le hi with hin |hin
  ·subst hin
   have hlt:¬((i:Int)<(i:Int)):=by omega
   have HF:Hid (idxG (fun t:TmC=>decide ((N:Int)≤t.c)) cs= -1):=by
    have:=hH.out
    rw[Hn.out,List.take_length]at this;exact Lib.hid (idxG_none this)
   clear hH;go_wp2;go_ret
   exact⟨by rw[HF.out]<;>rfl,hex⟩
  ·have hlt:(i:Int)<(n:Int):=by omega
   obtain⟨c,hx⟩:∃x,cs[i]? =some x:=⟨_,List.getElem?_eq_getElem (by rw[←Hn.out];exact hin)⟩;obtain⟨g,rfl,hcell⟩:=Hat.out i c hx;obtain⟨hc0,hc1,hc2,hc3⟩:=hcell wr hex;have HPC:=Lib.hid (hp.ext hex);clear hcell;have HX:=Lib.hid (And.intro hx (take_next hx));have HMEM:=Lib.hid (List.mem_of_getElem? hx);obtain⟨r,hr⟩:∃r:Bool,r=(fun t:TmC=>decide ((N:Int)≤t.c)) c:=⟨_,rfl⟩;have Hr:=Lib.hid hr.symm;clear hx hr;go_wp2_with fail;refine(mge_calls c gp N wr HPC.out).mono ?_;rw[Hr.out];rintro ee w2 ⟨rfl,e2⟩
   cases r with
   |true=>
    have HF:Hid (idxG (fun t:TmC=>decide ((N:Int)≤t.c)) cs=(i:Int)):=Lib.hid (idxG_at hH.out HX.out.1 Hr.out)
    clear hH;go_wp2;go_ret
    exact⟨by rw[HF.out]<;>rfl,hex.trans e2⟩
   |false=>
    have HF:Hid (∀x∈cs.take (i+1),(fun t:TmC=>decide ((N:Int)≤t.c)) x=false):=Lib.hid fun x hx=>by
     rw[HX.out.2]at hx
     rcases List.mem_append.1 hx with hx |hx
     ·exact hH.out x hx
     ·rw[List.mem_singleton]at hx;subst hx;exact Hr.out
    clear hH;go_wp2;go_roundw
    case rel=>exact ⟨i+1,by omega,congrArg (Value.int .i64) (by omega),HF,hex.trans e2⟩
    case measure=>simp [intOf];omega
set_option maxHeartbeats 4000000 in
theorem mdel_calls(B gp N:Nat){n0 n1:ByteArray}{ra:Option Addr}{rn rc:Nat}{va:Option Addr}{vc:Nat}(v:Value)(ps:Ps)(w:World)(h:LS 95 4 B w v ((tsP ps).map tmv))(hn:ps.length≤34359738368)(hp:Bx 25 w gp #[.string n0,.string n1,.slice ra rn rc,.slice va N vc]):
  Calls Tryz.prog 78 #[v,.func (.func 80) #[] #[.pointer (some ⟨gp,0,none⟩)]] w fun e w'=>∃v',e= .returned v'∧LS 95 4 B w' v' ((tsP (ltP N ps)).map tmv)∧w.grownBy w' v.ownBlock:=by
 have hls:=h;obtain⟨ad,cap,e1, -, -, -⟩:=hls.opn
 have hml:((tsP ps).map tmv).length=ps.length:=by unfold tsP;simp
 rw[hml]at e1;subst e1;have HL:=Lib.hid hls;have HML:=Lib.hid hml;obtain⟨n,hnn⟩:∃n,n=ps.length:=⟨_,rfl⟩;rw[←hnn]at hn HL ⊢;have HN:=Lib.hid hnn;have hidx:=idxG_cases (p:=fun t:TmC=>decide ((N:Int)≤t.c)) (cs:=tsP ps);clear h hls hml hnn
 go_enter Tryz.func78,Tryz.ntmps78
 go_wp2_with fail;refine(midx_calls _ (tsP ps) B gp N w HL.out hp).mono ?_;rintro ee w2 ⟨rfl,e2⟩
 rcases hidx with⟨hr,hall⟩ |⟨i0,x,hr,hx,hx0,hbef⟩
 ·have HA:Hid (ltP N ps=ps):=Lib.hid (ltP_all fun p hp=>of_decide_eq_false (hall p.1 (List.mem_map.2 ⟨p,hp,rfl⟩)))
  rw[hr];clear hall hr;go_wp2;go_ret;refine⟨_,rfl,by rw[HA.out];exact HL.out.ext e2,?_⟩
  cases ad with
  |none=>exact e2
  |some a=>exact e2.chg a.block
 ·have hpl:(tsP ps).length=n:=by have:=HML.out;rw[List.length_map]at this;rw[this,HN.out]
  have hpl2:ps.length=n:=by unfold tsP at hpl;rw[List.length_map]at hpl;exact hpl
  have hi0:i0<n:=by have:=(List.getElem?_eq_some_iff.1 hx).1;omega
  rw[hr];clear hr;obtain⟨g,cap',rest,f1,f2,f3,f4,f5,f6⟩:=HL.out.hold (by rw[List.length_map,hpl];omega);rw[List.length_map,hpl]at f1 f3 f5
  cases f1
  obtain⟨p0,hp0⟩:∃p0,ps[i0]? =some p0:=⟨_,List.getElem?_eq_getElem (by omega)⟩
  have hp00:(N:Int)≤p0.1.c:=by
   have h1:(tsP ps)[i0]? =some p0.1:=by unfold tsP;rw[List.getElem?_map,hp0];rfl
   rw[h1]at hx
   cases hx
   exact of_decide_eq_true hx0
  have hnz0:ltP N (ps.take i0)=ps.take i0:=ltP_all fun p hp=>of_decide_eq_false (hbef p.1 (by
   unfold tsP;rw[←List.map_take]
   exact List.mem_map.2 ⟨p,hp,rfl⟩))
  have HST:Hid ((tsP ps).length=n∧HoldT g rest w2 (tsP ps)∧(tsP ps).take i0=tsP (ltP N (ps.take (i0+1)))∧i0=(ltP N (ps.take (i0+1))).length∧(tsP ps).drop (i0+1)=(tsP ps).drop (i0+1)):=by
   have e:ltP N (ps.take (i0+1))=ps.take i0:=by
    rw[List.take_add_one,hp0]
    show ltP N (ps.take i0++ [p0])=_
    rw[ltP_snoc,if_pos hp00,hnz0]
   exact Lib.hid ⟨hpl,⟨strN_tmv _,f6.ext e2⟩,by rw[e];unfold tsP;rw[List.map_take],by rw[e,List.length_take];omega,rfl⟩
  have HB0:=Lib.hid f6;have HPL:=Lib.hid hpl2;have HG:=Lib.hid (And.intro f2 (And.intro f3 (And.intro f4 f5)));have hC2:Chg g w w2:=e2.chg g
  have hgg:gp≠g:=fun e=>by
   subst e;have h1:=hp;have h2:=HB0.out;unfold Bx at h1 h2;rw[h1]at h2;simp only[Option.some.injEq,Obj.cells.injEq,and_true]at h2;exact absurd h2.2 (by decide)
  have HPB:=Lib.hid hp;have hncap:n≤cap:=f3;have hcapm:cap≤9223372036854775807:=f4;clear hp hx hx0 hbef hpl hpl2 f2 f3 f4 f5 f6 hp0 hp00 hnz0;obtain⟨j0,hj0⟩:∃j0,j0=i0+1:=⟨_,rfl⟩;rw[←hj0]at HST
  have hj0':(i0:Int)+1=(j0:Int):=by omega
  have hij0:i0<j0:=by omega
  have hjn0:j0≤n:=by omega
  have hi1:¬(i0:Int)= -1:=by omega
  clear hj0
  have hbi:((i0:Int)== -1)=false:=by simp
  go_wp2_with fail
  (try rw[hbi])
  clear hi1 hbi
  go_loopw [5,6] (fun s5 s6 wr=>∃(i j:Nat),s5= .int .i64 (i:Int)∧s6= .int .i64 (j:Int)∧i<j∧j≤n∧Hid (∃us:List TmC,us.length=n∧HoldT g rest wr us∧us.take i=tsP (ltP N (ps.take j))∧i=(ltP N (ps.take j)).length∧us.drop j=(tsP ps).drop j)∧Chg g w wr) (fun s5 s6 _=>((n:Int) - intOf s6).toNat)
  case atStart=>exact ⟨i0,j0,rfl,rfl,hij0,hjn0,Lib.hid (let ⟨a,b,c,d,_⟩:=HST.out;⟨_,a,b,c,d,rfl⟩),hC2⟩
  case round=>
   obtain⟨i,j,rfl,rfl,hij,hjn,hH,hch⟩:=hrel
   obtain⟨us,hH⟩:∃us:List TmC,Hid (us.length=n∧HoldT g rest wr us∧us.take i=tsP (ltP N (ps.take j))∧i=(ltP N (ps.take j)).length∧us.drop j=(tsP ps).drop j):=by
    obtain⟨us,h⟩:=hH.out;exact⟨us,Lib.hid h⟩
   clear hC2 HST hj0' hij0 hjn0
   rcases Nat.eq_or_lt_of_le hjn with hje |hlt
   ·subst hje
    have hlt':¬(j:Int)<(j:Int):=by omega
    have hzv:∀w,(zeroValue 95).run Tryz.prog w= .ok (.agg #[.int .i64 0,.bool false,.slice none 0 0,.slice none 0 0]) w:=fun w=>by kernel_rfl
    have hmul:i*4+(j - i)*4=j*4:=by omega
    have hcl:=fun ty=>run_clear_structs (P:=Tryz.prog) wr 31 95 ty _ Tryz.underlying31 hzv (fun u hu=>by
     simp only[Value.cells,List.mem_cons,List.not_mem_nil,or_false]at hu
     rcases hu with rfl |rfl |rfl |rfl<;>rfl) g (i*4) (j - i) (cap - i) _ hH.out.2.1.2 (by
      rw[List.length_append,flatS_len hH.out.2.1.1.size,List.length_map,hH.out.1]
      show i*4+(j - i)*4≤_
      omega) (by omega) (by decide)
    obtain⟨zs,hzs⟩:∃zs,zs=(Builtin.zeroCells (Value.agg #[.int .i64 0,.bool false,.slice none 0 0,.slice none 0 0]).cells (j - i)).toList:=⟨_,rfl⟩;rw[←hzs]at hcl
    have hzl:zs.length=(j - i)*4:=by rw[hzs];simp[Builtin.zeroCells,Value.cells]
    obtain⟨w7,hw7⟩:∃w7,w7=wr.setRow g (laidS (flatS (us.map tmv)++rest) (i*4) zs).toArray:=⟨_,rfl⟩;rw[←hw7]at hcl
    have hB7:Bx 95 w7 g (laidS (flatS (us.map tmv)++rest) (i*4) zs).toArray:=by rw[hw7];exact hH.out.2.1.2.setRow _
    have hC7:Chg g wr w7:=by rw[hw7];exact Chg.setRow _ _ _
    have hlay:laidS (flatS (us.map tmv)++rest) (i*4) zs=flatS ((us.take i).map tmv)++(zs++rest):=by
     have hl:=flatS_len hH.out.2.1.1.size;rw[List.length_map,hH.out.1]at hl;unfold laidS;rw[List.take_append_of_le_length (by omega),flatS_take hH.out.2.1.1.size,List.map_take,hzl,hmul,←hl,List.drop_left,List.append_assoc]
    have HF7:Hid (LS 95 4 B w7 (.slice (some ⟨g,0,none⟩) i cap) ((tsP (ltP N ps)).map tmv)∧Chg g w w7):=by
     obtain⟨h1,h2,h3,h4,h5⟩:=hH.out;obtain⟨g1,g2,g3,g4⟩:=HG.out;rw[hlay]at hB7
     have hti:(us.take i).length=i:=by rw[List.length_take];omega
     have hCC:=hch.trans hC7
     have htall:ps.take j=ps:=by rw[List.take_of_length_le];have:=HPL.out;omega
     rw[htall]at h3 h4
     have hLS:=LS.of_hold (e:=95) (n:=4) (B:=B) (w:=w7) (vs:=(us.take i).map tmv) (g:=g) (cap:=cap) (rest:=zs++rest) (strN_tmv _) g1 (by rw[List.length_map,hti];omega) g3 (by
      rw[List.length_map,hti,List.length_append,hzl]
      have g4':j*4+rest.length=cap*4:=g4
      omega) hB7
     rw[List.length_map,hti,h3]at hLS;exact Lib.hid ⟨hLS,hCC⟩
    have hji:j - i>0:=by omega
    have hile:i≤j:=by omega
    have hicap:i≤cap:=by omega
    clear hH hB7 hC7 hlay hzl hzs hzv hmul hw7;go_wp2;go_ret;exact⟨_,rfl,HF7.out.1,HF7.out.2⟩
   ·have hlt':(j:Int)<(n:Int):=by omega
    have hin':(i:Int)<(n:Int):=by omega
    obtain⟨p,hp⟩:∃p,ps[j]? =some p:=⟨_,List.getElem?_eq_getElem (by rw[HPL.out];exact hlt)⟩
    have hus:us[j]? =some p.1:=by
     obtain⟨h1,h2,h3,h4,h5⟩:=hH.out
     have k1:us[j]? =(us.drop j)[0]? :=by rw[List.getElem?_drop,Nat.add_zero]
     rw[k1,h5,List.getElem?_drop,Nat.add_zero];unfold tsP;rw[List.getElem?_map,hp]
     rfl
    obtain⟨old,hold⟩:∃old,us[i]? =some old:=⟨_,List.getElem?_eq_getElem (by rw[hH.out.1];omega)⟩;have hcj:=hH.out.2.1.at hus wr (Ext.refl wr)
    have hc0:wr.cell? ⟨g,j*4,none⟩=some (.int .i64 p.1.c):=hcj 0 _ rfl
    have hc1:=hcj 1 _ rfl;have hc2:=hcj 2 _ rfl;have hc3:=hcj 3 _ rfl
    have htk:ps.take (j+1)=ps.take j++ [p]:=by rw[List.take_add_one,hp];rfl
    have HTK:=Lib.hid htk;have HUS:=Lib.hid (And.intro hus hold);obtain⟨r,hr⟩:∃r:Bool,r=decide ((N:Int)≤p.1.c):=⟨_,rfl⟩;have Hr:=Lib.hid hr.symm;obtain⟨t,q⟩:=p
    simp only at hc0 hc1 hc2 hc3 HTK HUS Hr
    obtain⟨w5,hw5,e5,b5,s5⟩:=alloc1 wr #[.int .i64 t.c,.bool t.b,.slice t.a1 t.n1 t.c1,.slice t.a2 t.n2 t.c2] 95;have HPC:=Lib.hid ((HPB.out.chg hch hgg).ext e5);clear hp hus hold hcj htk hr;go_wp2_with fail;rw[←hw5];refine(mge_calls t gp N w5 HPC.out).mono ?_;rw[Hr.out];rintro ee w6 ⟨rfl,e6⟩;have E6:=e5.trans e6;have b6:=b5.ext e6;have hd0:=b6.cell 0;have hd1:=b6.cell 1;have hd2:=b6.cell 2;have hd3:=b6.cell 3;obtain⟨j1,hj1⟩:∃j1,j1=j+1:=⟨_,rfl⟩
    have hj1':(j:Int)+1=(j1:Int):=by omega
    rw[←hj1]at HTK;have HJ1:=Lib.hid hj1;have H6:=Lib.hid (hH.out.2.1.ext E6);clear hj1 hc0 hc1 hc2 hc3 hw5 b5
    cases r with
    |true=>
     go_wp2;go_roundw
     case rel=>
      obtain⟨h1,h2,h3,h4,h5⟩:=hH.out;have hq:(N:Int)≤t.c:=of_decide_eq_true Hr.out
      have e:ltP N (ps.take j1)=ltP N (ps.take j):=by rw[HTK.out,ltP_snoc,if_pos hq]
      have hj:=HJ1.out;refine⟨i,j1,rfl,rfl,by omega,by omega,Lib.hid ⟨us,h1,H6.out,by rw[e];exact h3,by rw[e];exact h4,?_⟩,hch.trans (E6.chg g)⟩;rw[hj,←List.drop_drop,h5,List.drop_drop]
     case measure=>have:=HJ1.out;simp[intOf];omega
    |false=>
     have hci:=H6.out.at HUS.out.2 w6 (Ext.refl w6)
     have hc0:w6.cell? ⟨g,i*4,none⟩=some (.int .i64 old.c):=hci 0 _ rfl
     have hc1:=hci 1 _ rfl;have hc2:=hci 2 _ rfl;have hc3:=hci 3 _ rfl;have hf0:=H6.out.2.free (i*4);have hf1:=H6.out.2.free (i*4+1);have hf2:=H6.out.2.free (i*4+2);have hf3:=H6.out.2.free (i*4+3);obtain⟨i1,hi1⟩:∃i1,i1=i+1:=⟨_,rfl⟩
     have hi1':(i:Int)+1=(i1:Int):=by omega
     have HI1:=Lib.hid hi1;clear hi1 hci;go_wp2;go_roundw
     case rel=>
      obtain⟨h1,h2,h3,h4,h5⟩:=hH.out;have hq:¬(N:Int)≤t.c:=of_decide_eq_false Hr.out
      have e:ltP N (ps.take j1)=ltP N (ps.take j)++ [(t,q)]:=by rw[HTK.out,ltP_snoc,if_neg hq]
      have hj:=HJ1.out;have hi:=HI1.out;refine⟨i1,j1,rfl,rfl,by omega,by omega,Lib.hid ⟨us.set i t,by rw[List.length_set];exact h1,H6.out.store (by rw[h1];omega) t,?_,by rw[e,List.length_append,←h4];exact hi,?_⟩,(hch.trans (E6.chg g)).trans (Chg.trans (Chg.trans (Chg.trans (Chg.setCell _ g (i*4) _) (Chg.setCell _ g (i*4+1) _)) (Chg.setCell _ g (i*4+2) _)) (Chg.setCell _ g (i*4+3) _))⟩
      ·rw[e]
       have e2:tsP (ltP N (ps.take j)++ [(t,q)])=tsP (ltP N (ps.take j))++ [t]:=by unfold tsP;simp
       rw[e2,←h3,hi,List.take_add_one,List.take_set_of_le (Nat.le_refl _),List.getElem?_set_self (by omega)]
       rfl
      ·rw[List.drop_set_of_lt (by omega),hj,←List.drop_drop,h5,List.drop_drop]
     case measure=>have:=HJ1.out;simp[intOf];omega
theorem CoL.fins{B K n:Nat}{w w':World}{v':Value}{vs us:List Value}{cs ds:List CR}(hst:StrN 5 vs)(hl:vs.length=cs.length)(hn:vs.length=n)(he:∀(i:Nat) (u:Value) (y:CR),vs[i]? =some u→cs[i]? =some y→CnO B K w u y)
  (hsu:StrN 5 us) (hlu:us.length=ds.length) (hu:∀(i:Nat) (u:Value) (y:CR),us[i]? =some u→ds[i]? =some y→CnO B K w u y)
  (h1:w'.ownsRow B 46 5 v' (n+us.length) (flatS vs++flatS us)) (hk:KeepT w w'):CoL B K w' v' (cs++ds):=by
 refine⟨vs++us,⟨hst.app hsu,?_⟩,by rw[List.length_append,List.length_append,hl,hlu],fun i u x hu' hx=> ?_⟩
 ·rw[flatS_append,List.length_append,hn];exact h1
 ·by_cases hin:i<vs.length
  ·rw[List.getElem?_append_left hin]at hu';rw[List.getElem?_append_left (by omega)]at hx;exact(he i u x hu' hx).keepT hk
  ·rw[List.getElem?_append_right (by omega)]at hu';rw[List.getElem?_append_right (by omega),←hl]at hx;exact(hu _ u x hu' hx).keepT hk
theorem LS.one_all{n:Nat}{us:List Value}(h:StrN n us):∀u∈flatS us,u.oneCell'=true:=by
 intro u hu;unfold flatS at hu;obtain⟨v,hv,hm⟩:=List.mem_flatMap.1 hu;obtain⟨cs,h1,h2,h3⟩:=h v hv;subst h1;exact Array.all_eq_true'.1 h3 u (Array.mem_toList_iff.1 hm)
theorem wpList_append_Co{w:World}{ops:Array Oper}{rest:List Oper}{o:Oper}{a:Act}{Q:Exit→Act→World→Prop}(hgd:o.guard=none)(s x:Operand)
  (ho:o.op= .call {callee:= .builtin .append,args:=#[s,x],argTypes:=#[29,29]})
  (B B2 K:Nat) (v u:Value) (cs ds:List CR) (hs:a.eval s=v) (hv:CoL B K w v cs) (hx:a.eval x=u) (hu:CoL B2 K w u ds) (hnil:ds=[]→u= .slice none 0 0) (hB:B≤B2) (hb:cs.length+ds.length≤1000000) (hbase:B≤w.heap.size)
  (h:∀ad cap w',CoL B K w' (.slice ad (cs.length+ds.length) cap) (cs++ds)→w.grownBy w' v.ownBlock→wpList Tryz.prog ops Q rest (a.put o.dst (.slice ad (cs.length+ds.length) cap)) w'):
  wpList Tryz.prog ops Q (o::rest) a w:=by
 obtain⟨vs,hLS,hvl,hve⟩:=hv;obtain⟨us,hLu,hul,hue⟩:=hu
 have hi:(Tryz.prog.info? 46).map (fun i=>(i.size,i.bytes))=some (5,88):=by kernel_rfl
 have hz:((Tryz.prog.info? 46).bind (·.zero)).map (fun z=>z.cells.size)=some 5:=by kernel_rfl
 cases hie:Tryz.prog.info? 46 with
 |none=>simp [hie]at hi
 |some i=>
  by_cases hd:ds=[]
  ·have hun:=hnil hd;obtain⟨ad,cap,hvv⟩:=ownsRow_lenP hLS.2;refine wpList_append_own_none hgd s x _ ho B 46 i 5 Tryz.underlying29 hie v vs.length (flatS vs) hs hLS.2 (hx.trans hun) ?_;subst hd;have h2:=h ad cap w;rw[List.append_nil,List.length_nil,Nat.add_zero,←hvl,←hvv]at h2;refine h2 ⟨vs,hLS,hvl,hve⟩ ?_
   cases v.ownBlock with
   |none=>exact Ext.refl _
   |some g=>exact Chg.refl _ _
  ·simp only[hie,Option.map_some,Option.some.injEq,Prod.mk.injEq]at hi
   cases hiz:i.zero with
   |none=>simp [hie,hiz]at hz
   |some z=>
    simp only[hie,hiz,Option.bind_some,Option.map_some,Option.some.injEq]at hz
    have hpos:0<us.length:=by
     rw[hul];exact List.length_pos_iff.2 hd
    obtain⟨g,cap',rest',f1,f2,f3,f4,f5,f6⟩:=hLu.hold hpos;have hfl:=flatS_len hLu.1.size
    refine wpList_append_lies w hgd s x _ ho B 46 i z 5 88 Tryz.underlying29 hie hiz hi.1 hi.2 hz (by omega) v vs.length (flatS vs) hs hLS.2 ⟨g,0,none⟩ us.length cap' (flatS us) (hx.trans f1) hfl (fun j y hj=>by
     rw[addr_add,Nat.zero_add,f6.cell,List.getElem?_toArray,List.getElem?_append_left (by have:=(List.getElem?_eq_some_iff.1 hj).1;exact this)]
     exact hj) (LS.one_all hLu.1) hpos (by unfold maxLen;omega) (by omega) hbase _ rfl fun g' cap2 w' k1 k2 k3 k4=> ?_
    have hk:KeepT w w':=grown_keepT k2 fun g hg=>by
     rcases hLS.2.2 with⟨e1,e2⟩ |⟨g'',cap'',cur,e1,e2,e3,e4⟩
     ·rw[e1]at hg;cases hg
     ·rw[e1]at hg;simp only[Value.ownBlock,Option.some.injEq]at hg;subst hg;exact⟨cur,e3⟩
    have hfin:=CoL.fins (B:=B) (K:=K) hLS.1 hvl rfl hve hLu.1 hul (fun i u y a b=>(hue i u y a b).mono hB) k1 hk;rw[hvl,hul]at hfin k1 ⊢;exact h _ _ w' hfin k2
theorem og_append_Co{w:World}{o:Oper}{a:Act}{f:Nat→Value}{gA:Nat}{post:Value→World→Prop}(hgd:o.guard=none)(s x:Operand)
  (ho:o.op= .call {callee:= .builtin .append,args:=#[s,x],argTypes:=#[29,29]})
  (B B2 K:Nat) (v u:Value) (cs ds:List CR) (hs:a.eval s=v) (hv:CoL B K w v cs) (hx:a.eval x=u) (hu:CoL B2 K w u ds) (hnil:ds=[]→u= .slice none 0 0) (hB:B≤B2) (hb:cs.length+ds.length≤1000000) (hbase:B≤w.heap.size) (hgr:∀wb,w.grownBy wb v.ownBlock→Chg gA w wb)
  (h:∀v' w',CoL B K w' v' (cs++ds)→post v' w'):
  OpGoal Tryz.prog o a f w (Chg gA) post:=by
 by_cases hd:ds=[]
 ·obtain⟨vs,hLS,hvl,hve⟩:=hv;have hun:=hnil hd
  have hi:(Tryz.prog.info? 46).map (fun i=>(i.size,i.bytes))=some (5,88):=by kernel_rfl
  cases hie:Tryz.prog.info? 46 with
  |none=>simp [hie]at hi
  |some i=>
   have hrun:=run_append_owned_none (P:=Tryz.prog) (w:=w) B 29 o.type 46 i 5 Tryz.underlying29 hie v vs.length (flatS vs) hLS.2;unfold OpGoal;rw[hgd];unfold Oper.wp
   simp[execOp,ho,resolve,invoke,builtin,hs,hx.trans hun,hrun,Result.andThen]
   subst hd;exact⟨v,rfl,Chg.refl _ _,h v w (by rw[List.append_nil];exact⟨vs,hLS,hvl,hve⟩)⟩
 ·obtain⟨vs,hLS,hvl,hve⟩:=hv;obtain⟨us,hLu,hul,hue⟩:=hu
  have hpos:0<us.length:=by
   rw[hul];exact List.length_pos_iff.2 hd
  obtain⟨g,cap',rest',f1,f2,f3,f4,f5,f6⟩:=hLu.hold hpos;have hfl:=flatS_len hLu.1.size
  refine og_append (P:=Tryz.prog) s x 29 hgd ho B 46 5 88 Tryz.underlying29 (by kernel_rfl) (by kernel_rfl) (by omega) v vs.length (flatS vs) hs hLS.2 ⟨g,0,none⟩ us.length cap' (flatS us) (hx.trans f1) hfl (fun j y hj=>by
     rw[addr_add,Nat.zero_add,f6.cell,List.getElem?_toArray,List.getElem?_append_left (by have:=(List.getElem?_eq_some_iff.1 hj).1;exact this)]
     exact hj) (LS.one_all hLu.1) hpos (by unfold maxLen;omega) (by omega) hbase fun v' w' k1 k2 k3=>⟨hgr w' k2,?_⟩
  have hk:KeepT w w':=grown_keepT k2 fun g hg=>by
   rcases hLS.2.2 with⟨e1,e2⟩ |⟨g'',cap'',cur,e1,e2,e3,e4⟩
   ·rw[e1]at hg;cases hg
   ·rw[e1]at hg;simp only[Value.ownBlock,Option.some.injEq]at hg;subst hg;exact⟨cur,e3⟩
  exact h v' w' (CoL.fins (B:=B) (K:=K) hLS.1 hvl rfl hve hLu.1 hul (fun i u y a b=>(hue i u y a b).mono hB) k1 hk)
def PP.toldP{S:Nat}(K:Nat)(ds:List CR):PP S:=⟨false,fun u w=>∃b,S≤b∧CoL b K w u ds∧(ds=[]→u= .slice none 0 0),fun _ _ _ h hp=>(let ⟨b,h0,h1,h2⟩:=hp;⟨b,h0,h1.ext h,h2⟩),fun _ _ hg _ _ _ h hp=>(let ⟨b,h0,h1,h2⟩:=hp;⟨b,h0,h1.chg h (Nat.lt_of_lt_of_le hg h0),h2⟩)⟩
theorem oneT_tl{S:Nat}{w:World}{u:Value}{c:Int}{q:Rat}{k:Nat}(h:(PP.oneT c q:PP S).p u w)(hz:szQ q≤k)(hk:k≤LIM):TL k w u [(c,q)]:=by
 obtain⟨g,t,h0,rfl,h2,h3,h4⟩:=h
 have hLS:=LS.of_hold (e:=95) (n:=4) (B:=S) (w:=w) (vs:=([t]:List TmC).map tmv) (g:=g) (cap:=1) (rest:=[]) (strN_tmv _) h0 (Nat.le_refl _) (by omega) (by simp) (by
  have e:(flatS (([t]:List TmC).map tmv)++ []).toArray=(tmv t).cells:=by simp[flatS]
  rw[e]
  exact h2)
 have h5:=LS.tl (k:=k) (ps:=[(t,q)]) (B:=S) hLS (fun p hp=>by
  rw[List.mem_singleton]at hp;subst hp
  exact h4.isR hz hk)
 unfold lP at h5;rw[←h3];exact h5
end Go.Proofs.YtbmnlaepfckmkaaGreat
