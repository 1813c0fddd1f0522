/-
 The documents' vectors: a times one, and another one (Axpy).
-/
import Derived.Test.YtbmnlaepfckmkaaGreatVrfZ
import Derived.Test.YtbmnlaepfckmkaaGreatVfcZ
import Derived.Laws.MakeOwn
import Derived.Test.YtbmnlaepfckmkaaGreatComZ
namespace Go.Proofs.YtbmnlaepfckmkaaGreat
set_option maxRecDepth 100000
set_option maxHeartbeats 1000000
open Go.RowKit
set_option linter.unusedVariables false
set_option linter.unusedSimpArgs false
theorem SLQ.ql{w:World}{u:Value}{l:List RE}(h:SLQ w u l)(k:Nat)(hk:1≤k)(hk2:k≤LIM)(hl:∀e∈l,e.2.1.length+e.2.2.length≤k):QL k w u (l.map ratE):=by
 obtain⟨ad,cap,h1,h2,h3,h4⟩:=h;refine⟨ad,cap,by rw[List.length_map];exact h1,by rw[List.length_map];exact h2,h3,?_⟩
 rcases h4 with h4 |⟨g,off,h4,h5⟩
 ·exact .inl (by rw[h4];rfl)
 ·refine .inr ⟨g,off,h4,fun i x hi=> ?_⟩;rw[List.getElem?_map]at hi
  cases he:l[i]? with
  |none=>rw [he]at hi;cases hi
  |some e=>
   rw[he]at hi;simp only[Option.map_some,Option.some.injEq]at hi;subst hi;obtain⟨cs,k1,k2,k4⟩:=h5 i e he
   have:=hl e (List.mem_of_getElem? he)
   exact⟨cs,k1,k2,k4.1.isR k4.2.1 k4.2.2.1 k (by omega) (by omega) hk hk2⟩
set_option maxHeartbeats 4000000 in
theorem greatAll_calls(v:Value)(l:List RE)(w:World)(hv:SLQ w v l):
  Calls Tryz.prog 28 #[v] w fun e w'=>e= .returned (.bool (greatE l))∧Ext w w':=by
 obtain⟨ad,n,cap,hnl,rfl,hn1,hat⟩:=hv.at;have HV:=Lib.hid hv;have HN:=Lib.hid hnl;have HAT:=Lib.hid hat;clear hnl hat hv
 go_enter Tryz.func28,Tryz.ntmps28
 go_wp2_with fail
 go_loopw [3] (fun s wr=>∃i:Nat,i≤n∧s= .int .i64 (i:Int)∧Hid (∀e∈l.take i,wordsE e≤6)∧Ext w wr) (fun s _=>((n:Int) - intOf s).toNat)
 case atStart=>exact ⟨0,Nat.zero_le _,rfl,Lib.hid (fun e he=>by simp at he),Ext.refl _⟩
 case round=>
  obtain⟨i,hi,rfl,hS,hE0⟩:=hrel
  rcases Nat.eq_or_lt_of_le hi with hin |hin
  ·subst hin
   have hlt:¬((i:Int)<(i:Int)):=by omega
   have hall:∀e∈l,wordsE e≤6:=by have:=hS.out;rwa [HN.out,List.take_length]at this
   have hG:greatE l=(decide (30<i) || decide (18<weightE l)):=by
    rw[greatE_rest hall,←HN.out]
   have HG:=Lib.hid hG;have HALL:=Lib.hid hall;clear hG hall
   by_cases h30:30<i
   ·have h30':(30:Int)<(i:Int):=by omega
    have HR:Hid (greatE l=true):=Lib.hid (by rw[HG.out,decide_eq_true h30];rfl)
    go_wp2;go_ret
    exact⟨by rw[HR.out]<;>rfl,hE0⟩
   ·have h30':¬(30:Int)<(i:Int):=by omega
    have HR:Hid (greatE l=decide (18<weightE l)):=Lib.hid (by rw[HG.out,decide_eq_false h30];rfl)
    go_wp2_with fail;refine(weight_calls _ l wr (HV.out.ext hE0) (by rw[←HN.out];omega) HALL.out).mono ?_;rintro e w2 ⟨rfl,e2⟩;obtain⟨p,hp⟩:∃p,p=weightE l:=⟨_,rfl⟩;rw[←hp]at HR ⊢;clear hp
    by_cases h18:18<p
    ·have h18':(18:Int)<(p:Int):=by omega
     have HR2:Hid (greatE l=true):=Lib.hid (by rw[HR.out,decide_eq_true h18])
     go_wp2;go_ret
     exact⟨by rw[HR2.out]<;>rfl,hE0.trans e2⟩
    ·have h18':¬(18:Int)<(p:Int):=by omega
     have hd18:decide ((18:Int)<(p:Int))=false:=decide_eq_false h18'
     have HR2:Hid (greatE l=false):=Lib.hid (by rw[HR.out,decide_eq_false h18])
     go_wp2;go_ret
     exact⟨by rw[HR2.out]<;>rfl,hE0.trans e2⟩
  ·have hlt:(i:Int)<(n:Int):=by omega
   obtain⟨⟨xb,xs,xt⟩,hx⟩:∃x,l[i]? =some x:=⟨_,List.getElem?_eq_getElem (by rw[←HN.out];exact hin)⟩;obtain⟨g,off,rfl,b,a1,n1,c1,a2,n2,c2, -, -,hcell⟩:=HAT.out i _ hx;obtain⟨hc0,hc1,hc2,hR⟩:=hcell wr hE0;have HRX:=Lib.hid hR;have HX:=Lib.hid hx;obtain⟨p,hp⟩:∃p,p=xs.length+xt.length:=⟨_,rfl⟩;have HP:=Lib.hid hp;obtain⟨i1,hi1⟩:∃i1,i1=i+1:=⟨_,rfl⟩
   have hi1':(i:Int)+1=(i1:Int):=by omega
   have hi1n:i1≤n:=by omega
   have HI1:=Lib.hid hi1;clear hcell hx hR hp hi1;go_wp2_with fail;refine(rqwords3_calls _ xb xs xt wr HRX.out.1 HRX.out.2.2.2).mono ?_;rintro e w2 ⟨rfl,e2⟩;rw[←HP.out]
   by_cases h6:6<p
   ·have h6':(6:Int)<(p:Int):=by omega
    have HR:Hid (greatE l=true):=Lib.hid (greatE_words (i:=i) (e:=(xb,xs,xt)) HX.out (by show 6<xs.length+xt.length;rw[←HP.out];exact h6))
    go_wp2;go_ret
    exact⟨by rw[HR.out]<;>rfl,hE0.trans e2⟩
   ·have h6':¬(6:Int)<(p:Int):=by omega
    have hs:∀e∈l.take i1,wordsE e≤6:=by
     rw[HI1.out,List.take_add_one,HX.out];intro e he
     rcases List.mem_append.1 he with he |he
     ·exact hS.out e he
     ·simp only[Option.toList_some,List.mem_singleton]at he;subst he
      show xs.length+xt.length≤6
      rw[←HP.out]
      omega
    have HS:=Lib.hid hs;clear hs;go_wp2;go_roundw
    case rel=>exact ⟨i1,hi1n,rfl,HS,hE0.trans e2⟩
    case measure=>have:=HI1.out;simp[intOf];omega
theorem emptyQ(w:World):(Instr.buildSlice 49 0 #[]).run Tryz.prog w= .ok (.slice (some ⟨w.heap.size,0,none⟩) 0 0) (w.alloc (.cells #[] 41)):=by kernel_rfl
def FrE(B:Nat)(w:World)(v:Value)(e:RE):Prop:=FrR B w v e.1 e.2.1 e.2.2
def gaN(xs:List Rat)(i:Nat):List (Int×Rat):=(List.range i).map fun(j:Nat)=>((j:Int),xs.getD j 0)
theorem gaN_snoc{xs:List Rat}{i:Nat}{x:Rat}(h:xs[i]? =some x):gaN xs (i+1)=gaN xs i++ [((i:Int),x)]:=by
 unfold gaN;rw[List.range_succ,List.map_append,List.map_singleton,List.getD_eq_getElem?_getD,h]
 rfl
theorem gaN_len(xs:List Rat)(i:Nat):(gaN xs i).length=i:=by unfold gaN;simp
def GaJ(w wr:World)(k i:Nat)(xs:List Rat)(lv:Value)(vs:List Value):Prop:=Ext w wr∧LS 95 4 w.heap.size wr lv vs∧vs.length=i∧∃ps:Ps,vs=(tsP ps).map tmv∧lP ps=gaN xs i∧∀p∈ps,IsR w (ratv p.1) p.2 k
theorem GaJ.tl{w wr:World}{k i:Nat}{xs:List Rat}{lv:Value}{vs:List Value}(h:GaJ w wr k i xs lv vs):TL k wr lv (gaN xs i):=by
 obtain⟨h1,h2,h3,ps,rfl,h5,h6⟩:=h;rw[←h5]
 exact LS.tl h2 fun p hp=>(h6 p hp).ext h1
theorem GaJ.app{w wr w7:World}{k i:Nat}{xs:List Rat}{lv v':Value}{vs:List Value}{x:Rat}{b:Bool}{a1 a2:Option Addr}{n1 c1 n2 c2:Nat}(h:GaJ w wr k i xs lv vs)(hE:Ext w w7)(hls:LS 95 4 w.heap.size w7 v' (vs++ [.agg #[.int .i64 (i:Int),.bool b,.slice a1 n1 c1,.slice a2 n2 c2]]))(hx:xs[i]? =some x)(hR:IsR w (.agg #[.bool b,.slice a1 n1 c1,.slice a2 n2 c2]) x k):GaJ w w7 k (i+1) xs v' (vs++ [.agg #[.int .i64 (i:Int),.bool b,.slice a1 n1 c1,.slice a2 n2 c2]]):=by
 obtain⟨h1,h2,h3,ps,rfl,h5,h6⟩:=h;refine⟨hE,hls,by rw[List.length_append,h3];rfl,ps++ [(⟨i,b,a1,n1,c1,a2,n2,c2⟩,x)],?_,?_,fun p hp=> ?_⟩
 ·rw[tsP_snoc,List.map_append]
  rfl
 ·rw[lP_snoc,h5,gaN_snoc hx]
 ·rcases List.mem_append.1 hp with hp |hp
  ·exact h6 p hp
  ·rw[List.mem_singleton]at hp;subst hp;exact hR
def FrK(B k:Nat)(w:World)(v:Value)(q:Rat):Prop:=FrQ B w v q∧szQ q≤k
theorem FrK.ext{B k:Nat}{w w':World}{v:Value}{q:Rat}(h:FrK B k w v q)(he:Ext w w'):FrK B k w' v q:=⟨h.1.ext he,h.2⟩
def HurtP(Q:Nat→Prop)(w w':World):Prop:=w'.os=w.os∧w'.tape=w.tape∧w'.output=w.output∧w.heap.size≤w'.heap.size∧
 ∀k,k<w.heap.size→w'.heap[k]? =w.heap[k]? ∨(Q k∧∃cur cur',w.heap[k]? =some (.cells cur 173 (0,0))∧w'.heap[k]? =some (.cells cur' 173 (0,0))∧cur'.size=cur.size)
theorem HurtP.trans{Q:Nat→Prop}{a b c:World}(h:HurtP Q a b)(k:HurtP Q b c):HurtP Q a c:=by
 obtain⟨h1,h2,h3,h4,h5⟩:=h;obtain⟨k1,k2,k3,k4,k5⟩:=k;refine⟨k1.trans h1,k2.trans h2,k3.trans h3,Nat.le_trans h4 k4,fun g hg=> ?_⟩
 rcases h5 g hg with e1 |⟨hb,cur,cur',c1,c2,c3⟩<;>rcases k5 g (by omega)with e2 |⟨hb2,dur,dur',d1,d2,d3⟩
 ·exact .inl (e2.trans e1)
 ·exact .inr ⟨hb2,dur,dur',e1▸d1,d2,d3⟩
 ·exact .inr ⟨hb,cur,cur',c1,e2.trans c2,c3⟩
 ·refine .inr ⟨hb,cur,dur',c1,d2,?_⟩;rw[c2]at d1
  cases d1
  omega
theorem Ext.hurtsP{w w':World}(Q:Nat→Prop)(h:Ext w w'):HurtP Q w w':=⟨World.grownBy.os h,World.grownBy.tape h,World.grownBy.output h,h.size,fun k hk=> .inl (h.heap hk)⟩
theorem Bx.hurtP{Q:Nat→Prop}{t:TypeId}{w w':World}{g:Nat}{cs:Array Value}(h:Bx t w g cs)(he:HurtP Q w w')(ht:t≠173):Bx t w' g cs:=by
 rcases he.2.2.2.2 g (blk_lt h)with e1 |⟨-,cur,cur',c1, -⟩
 ·exact e1.trans h
 ·unfold Bx at h;rw[h]at c1
  cases c1
  exact absurd rfl ht
theorem HurtP.setCell{Q:Nat→Prop}{g i:Nat}{w:World}{cur:Array Value}(h:w.heap[g]? =some (.cells cur 173 (0,0)))(hB:Q g)(u:Value):HurtP Q w (w.setCell ⟨g,i,none⟩ u):=by
 have hc:=Chg.setCell w g i u;refine⟨World.grownBy.os hc,World.grownBy.tape hc,World.grownBy.output hc,hc.size,fun k hk=> ?_⟩
 by_cases hkg:k=g
 ·subst hkg;exact .inr ⟨hB,cur,_,h,heap_setCell_same w k i _ _ _ h,by simp⟩
 ·exact .inl (hc.heap hk hkg)
def ShpP(Q:Nat→Prop)(w:World)(s:Value):Prop:=∃ad l cap,s= .slice ad l cap∧l≤9223372036854775807∧(l=0∨∃g cur,ad=some ⟨g,0,none⟩∧Q g∧w.heap[g]? =some (.cells cur 173 (0,0))∧l≤cur.size)
def ShpR(Q:Nat→Prop)(w:World)(v:Value):Prop:=∃b s t,v= .agg #[.bool b,s,t]∧ShpP Q w s∧ShpP Q w t
theorem ShpP.hurtP{Q Q1:Nat→Prop}{w w':World}{s:Value}(h:ShpP Q w s)(he:HurtP Q1 w w'):ShpP Q w' s:=by
 obtain⟨ad,l,cap,h1,h2,h3⟩:=h;refine⟨ad,l,cap,h1,h2,?_⟩
 rcases h3 with h3 |⟨g,cur,h3,h4,h5,h6⟩
 ·exact .inl h3
 ·rcases he.2.2.2.2 g (blk_lt h5)with e1 |⟨-,cu,cu',c1,c2,c3⟩
  ·exact .inr ⟨g,cur,h3,h4,e1.trans h5,h6⟩
  ·rw[h5]at c1
   cases c1
   exact .inr ⟨g,cu',h3,h4,c2,by omega⟩
theorem FrL.shpP{k:IntKind}{B0 B1:Nat}{w:World}{s:Value}{xs:List Nat}(h:FrL 173 k B0 w s xs)(hB:w.heap.size≤B1):ShpP (fun k=>B0≤k∧k<B1) w s:=by
 obtain⟨ad,cap,h1,h2,h3,h4⟩:=h;refine⟨ad,_,cap,h1,by omega,?_⟩
 rcases h4 with⟨h4, -⟩ |⟨g,cur,h4,h5,h6,h7, -⟩
 ·exact .inl (by rw[vals_nil.1 h4];rfl)
 ·exact .inr ⟨g,cur,h4,⟨h5,Nat.lt_of_lt_of_le (blk_lt h6) hB⟩,h6,by omega⟩
theorem FrQ.shpP{B0 B1:Nat}{w:World}{v:Value}{q:Rat}(h:FrQ B0 w v q)(hB:w.heap.size≤B1):ShpR (fun k=>B0≤k∧k<B1) w v:=by
 obtain⟨s,t,h1,h2,h3⟩:=h;exact⟨_,s,t,h1,FrL.shpP h2 hB,FrL.shpP h3 hB⟩
theorem spoilP_calls(v:Value)(Q:Nat→Prop)(w:World)(hv:ShpR Q w v):
  Calls Tryz.prog 88 #[v] w fun e w'=>e= .returned (.tuple #[])∧HurtP Q w w':=by
 obtain⟨b,s,t,rfl,hs,ht⟩:=hv;obtain⟨ad,l,cap,rfl,hl,hs1⟩:=hs;obtain⟨ad2,m,cap2,rfl,hm,ht1⟩:=ht
 go_enter Tryz.func88,Tryz.ntmps88
 obtain⟨w1,hw1,e1,b1,s1⟩:=alloc1 w #[.bool b,.slice ad l cap,.slice ad2 m cap2] 41;go_wp2_with fail;rw[←hw1];have H1:=e1.hurtsP Q
 go_loopw [2] (fun i wr=>∃k:Nat,k≤l∧i= .int .i64 (k:Int)∧HurtP Q w wr∧Bx 41 wr w.heap.size #[.bool b,.slice ad l cap,.slice ad2 m cap2]) (fun i _=>((l:Int) - intOf i).toNat)
 case atStart=>exact ⟨0,Nat.zero_le _,rfl,H1,b1⟩
 case round=>
  obtain⟨k,hk,rfl,hH,hB⟩:=hrel;have hc0:=hB.cell 0;have hc1:=hB.cell 1;have hc2:=hB.cell 2
  rcases Nat.eq_or_lt_of_le hk with hkl |hkl
  ·subst hkl;go_wp2_with fail;clear hc0 hc1 hc2
   go_loopw [3] (fun i wr=>∃j:Nat,j≤m∧i= .int .i64 (j:Int)∧HurtP Q w wr∧Bx 41 wr w.heap.size #[.bool b,.slice ad k cap,.slice ad2 m cap2]) (fun i _=>((m:Int) - intOf i).toNat)
   case atStart=>exact ⟨0,Nat.zero_le _,rfl,hH,hB⟩
   case round=>
    obtain⟨j,hj,rfl,hH2,hB2⟩:=hrel;have hc0:=hB2.cell 0;have hc1:=hB2.cell 1;have hc2:=hB2.cell 2
    rcases Nat.eq_or_lt_of_le hj with hjl |hjl
    ·subst hjl;go_wp2
     go_end0
     exact⟨rfl,hH2⟩
    ·have hsh:ShpP Q _ _:=ShpP.hurtP (s:= .slice ad2 m cap2) ⟨_,_,_,rfl,hm,ht1⟩ hH2;obtain⟨_,_,_,hsl, -,hsg⟩:=hsh
     cases hsl
     obtain⟨g,cur,rfl,hg,hh,hcs⟩:=hsg.resolve_left (by omega);have hcg:=cell_of_row _ g j cur _ _ hh;rw[Array.getElem?_eq_getElem (by omega)]at hcg;have hfg:=frozen_of_row _ g j _ _ hh;go_wp2;go_roundw
     case rel=>exact ⟨j+1,by omega,by simp,hH2.trans (HurtP.setCell hh hg _),hB2.hurtP (HurtP.setCell hh hg _) (by decide)⟩
     case measure=>simp [intOf];omega
  ·have hsh:ShpP Q _ _:=ShpP.hurtP (s:= .slice ad l cap) ⟨_,_,_,rfl,hl,hs1⟩ hH;obtain⟨_,_,_,hsl, -,hsg⟩:=hsh
   cases hsl
   obtain⟨g,cur,rfl,hg,hh,hcs⟩:=hsg.resolve_left (by omega);have hcg:=cell_of_row _ g k cur _ _ hh;rw[Array.getElem?_eq_getElem (by omega)]at hcg;have hfg:=frozen_of_row _ g k _ _ hh;go_wp2;go_roundw
   case rel=>exact ⟨k+1,by omega,by simp,hH.trans (HurtP.setCell hh hg _),hB.hurtP (HurtP.setCell hh hg _) (by decide)⟩
   case measure=>simp [intOf];omega
theorem FrK.grow{B k:Nat}{w w':World}{v:Value}{q:Rat}{lv:Value}{vs:List Value}(h:FrK B k w v q)(hls:LS 41 3 B w lv vs)(hg:w.grownBy w' lv.ownBlock):FrK B k w' v q:=by
 rcases hls.2.2 with⟨h1,h2⟩ |⟨g',cap',cur,h1,h2,h3,h4⟩
 ·rw[h1]at hg;exact h.ext hg
 ·rw[h1]at hg;exact⟨h.1.chgB hg h3 (by decide),h.2⟩
theorem OL.ql{B k:Nat}{w:World}{v:Value}{qs:List Rat}(h:OL 41 3 B (FrK B k) w v qs)(hk:k≤LIM):QL k w v qs:=(OL.sl h (by omega)).map fun u y hu=>hu.1.isR hu.2 hk
theorem TLE.val{w:World}{v:Value}{l:List TE}(h:TLE w v l):∃ad n cap,v= .slice ad n cap:=by
 obtain⟨ad,m,cap,h1,h2, -⟩:=h.at;exact⟨ad,m,cap,h2⟩
theorem TO.val{B k:Nat}{w:World}{v:Value}{l:List (Int×Rat)}(h:TO B k w v l):∃ad cap,v= .slice ad l.length cap:=by
 obtain⟨ts,h1,h2, -⟩:=h;obtain⟨ad,cap,e, -⟩:=h2.opn;rw[List.length_map,h1]at e;exact⟨ad,cap,e⟩
def ratT(l:List TE):List (Int×Rat):=l.map fun e=>(e.1,ratE e.2)
def OV{α:Type}(t:TypeId)(B:Nat)(R:World→Value→α→Prop)(w:World)(v:Value)(ys:List α):Prop:=∃vs,w.ownsRow B t 1 v vs.length vs∧vs.length=ys.length∧∀(i:Nat) (u:Value) (y:α),vs[i]? =some u→ys[i]? =some y→R w u y
theorem ownsRow_monoI{B B' e size n:Nat}{w:World}{v:Value}{xs:List Value}(h:w.ownsRow B e size v n xs)(hB:B'≤B):w.ownsRow B' e size v n xs:=by
 refine⟨h.1,?_⟩
 rcases h.2 with h2 |⟨g,cap,cur,h1,h2,h3⟩
 ·exact .inl h2
 ·exact .inr ⟨g,cap,cur,h1,Nat.le_trans hB h2,h3⟩
theorem ownsRow_ge{B e size n:Nat}{w:World}{v:Value}{xs:List Value}(h:w.ownsRow B e size v n xs):∀g,v.ownBlock=some g→B≤g:=by
 intro g hg
 rcases h.2 with⟨h1,h2⟩ |⟨g',cap,cur,h1,h2,h3,h4⟩
 ·rw[h1]at hg;cases hg
 ·rw[h1]at hg;simp only[Value.ownBlock,Option.some.injEq]at hg;subst hg;exact h2
theorem OV.opn{α:Type}{t:TypeId}{B:Nat}{R:World→Value→α→Prop}{w:World}{v:Value}{ys:List α}(h:OV t B R w v ys):∃ad cap,v= .slice ad ys.length cap∧ys.length≤cap∧cap≤9223372036854775807∧∀(i:Nat) (y:α),ys[i]? =some y→∃g,ad=some ⟨g,0,none⟩∧B≤g∧∃u,(∀wz,Ext w wz→wz.cell? ⟨g,i,none⟩=some u)∧R w u y:=by
 obtain⟨vs,h0,hl,hR⟩:=h
 rcases h0.2 with⟨h1,h2⟩ |⟨g,cap,cur,h1,h2,h3,h4,h5,h6,h7⟩
 ·refine⟨none,0,by rw[h1,←hl,h2],by omega,by omega,fun i x hi=> ?_⟩
  have:=(List.getElem?_eq_some_iff.1 hi).1
  omega
 ·refine⟨_,cap,by rw[h1,hl],by omega,by unfold maxLen at h5;omega,fun i y hi=> ?_⟩;have hlt:=(List.getElem?_eq_some_iff.1 hi).1;refine⟨g,rfl,h2,vs[i],fun wz hz=> ?_,hR i _ y (List.getElem?_eq_getElem (by omega)) hi⟩;have hb:Bx t wz g cur:=hz.blk h3;rw[hb.cell i];have h8:=congrArg (fun l=>l[i]?) h7;simp only[Nat.mul_one]at h8;rw[List.getElem?_take,if_pos (by omega),Array.getElem?_toList]at h8;rw[h8];exact List.getElem?_eq_getElem (by omega)
theorem OV.sv{α:Type}{t:TypeId}{B:Nat}{R:World→Value→α→Prop}{w:World}{v:Value}{ys:List α}(h:OV t B R w v ys):SV R w v ys:=by
 obtain⟨ad,cap,h1,h2,h3,h4⟩:=h.opn;refine⟨ad,cap,h1,h2,h3,?_⟩
 match ys,h4 with
 | [],_=>exact .inl rfl
 |y::ys,h4=>
  obtain⟨g,rfl, -⟩:=h4 0 y rfl;refine .inr ⟨g,0,rfl,fun i x hx=> ?_⟩;obtain⟨g',e, -,u,k1,k2⟩:=h4 i x hx
  cases e
  exact⟨u,by rw[Nat.zero_add];exact k1 w (Ext.refl w),k2⟩
theorem TLO.val{B:Nat}{w:World}{v:Value}{l:List TE}(h:TLO B w v l):∃ad n cap,v= .slice ad n cap:=h.tle.val
theorem TLO.mono{B B':Nat}{w:World}{v:Value}{l:List TE}(h:TLO B w v l)(hB:B'≤B):TLO B' w v l:=by
 obtain⟨⟨ts,h1,h2,h3⟩,hd⟩:=h;exact⟨⟨ts,h1,h2.mono hB,fun j t e a b=>⟨(h3 j t e a b).1,(h3 j t e a b).2.mono hB⟩⟩,hd⟩
def HurtW(Q:Nat→Prop)(w w':World):Prop:=w'.os=w.os∧w'.tape=w.tape∧w'.output=w.output∧w.heap.size≤w'.heap.size∧
 ∀k,k<w.heap.size→w'.heap[k]? =w.heap[k]? ∨(Q k∧∃cur cur' t,(t=173∨(t=95∧∀x,x % 4≠0→cur'[x]? =cur[x]?))∧w.heap[k]? =some (.cells cur t (0,0))∧w'.heap[k]? =some (.cells cur' t (0,0))∧cur'.size=cur.size)
theorem HurtP.w{Q:Nat→Prop}{w w':World}(h:HurtP Q w w'):HurtW Q w w':=by
 obtain⟨h1,h2,h3,h4,h5⟩:=h;refine⟨h1,h2,h3,h4,fun k hk=> ?_⟩
 rcases h5 k hk with e |⟨hb,cur,cur',c1,c2,c3⟩
 ·exact .inl e
 ·exact .inr ⟨hb,cur,cur',_,.inl rfl,c1,c2,c3⟩
theorem HurtW.refl(Q:Nat→Prop)(w:World):HurtW Q w w:=⟨rfl,rfl,rfl,Nat.le_refl _,fun k hk=> .inl rfl⟩
theorem Ext.hurtsW{w w':World}(Q:Nat→Prop)(h:Ext w w'):HurtW Q w w':=⟨World.grownBy.os h,World.grownBy.tape h,World.grownBy.output h,h.size,fun k hk=> .inl (h.heap hk)⟩
theorem HurtW.trans{Q:Nat→Prop}{a b c:World}(h:HurtW Q a b)(k:HurtW Q b c):HurtW Q a c:=by
 obtain⟨h1,h2,h3,h4,h5⟩:=h;obtain⟨k1,k2,k3,k4,k5⟩:=k;refine⟨k1.trans h1,k2.trans h2,k3.trans h3,Nat.le_trans h4 k4,fun g hg=> ?_⟩
 rcases h5 g hg with e1 |⟨hb,cur,cur',t,ht,c1,c2,c3⟩<;>rcases k5 g (by omega)with e2 |⟨hb2,dur,dur',u,hu,d1,d2,d3⟩
 ·exact .inl (e2.trans e1)
 ·exact .inr ⟨hb2,dur,dur',u,hu,e1▸d1,d2,d3⟩
 ·exact .inr ⟨hb,cur,cur',t,ht,c1,e2.trans c2,c3⟩
 ·rw[c2]at d1
  cases d1
  refine .inr ⟨hb,cur,dur',t,?_,c1,d2,by omega⟩
  rcases ht with ht |⟨ht,hx⟩
  ·exact .inl ht
  ·rcases hu with hu |⟨hu,hy⟩
   ·exact .inl hu
   ·exact .inr ⟨ht,fun x hn=>(hy x hn).trans (hx x hn)⟩
theorem Ext.hurtW{Q:Nat→Prop}{a w w':World}(h:Ext a w)(k:HurtW Q w w')(hB:∀k,Q k→a.heap.size≤k):Ext a w':=by
 obtain⟨k1,k2,k3,k4,k5⟩:=k;refine⟨k1.trans (World.grownBy.os h),k2.trans (World.grownBy.tape h),k3.trans (World.grownBy.output h),Nat.le_trans h.size k4,fun g hg _=> ?_⟩
 have:=h.size
 rcases k5 g (by omega)with e1 |⟨hb, -⟩
 ·exact e1.trans (h.heap hg)
 ·have:=hB g hb;omega
theorem Bx.hurtW{Q:Nat→Prop}{t:TypeId}{w w':World}{g:Nat}{cs:Array Value}(h:Bx t w g cs)(he:HurtW Q w w')(ht:t≠173)(ht2:t≠95):Bx t w' g cs:=by
 rcases he.2.2.2.2 g (blk_lt h)with e1 |⟨-,cur,cur',u,hu,c1, -⟩
 ·exact e1.trans h
 ·unfold Bx at h;rw[h]at c1
  cases c1
  exact absurd (hu.imp_right And.left) (not_or.2 ⟨ht,ht2⟩)
theorem Bx.hurtTW{Q:Nat→Prop}{w w':World}{g:Nat}{cs:Array Value}(h:Bx 95 w g cs)(he:HurtW Q w w'):∃cs',Bx 95 w' g cs'∧cs'.size=cs.size∧∀x,x % 4≠0→cs'[x]? =cs[x]? :=by
 rcases he.2.2.2.2 g (blk_lt h)with e1 |⟨-,cur,cur',u,hu,c1,c2,c3⟩
 ·exact⟨cs,e1.trans h,rfl,fun x _=>rfl⟩
 ·unfold Bx at h;rw[h]at c1
  cases c1
  rcases hu with hu |⟨-,hu⟩
  ·exact absurd hu (by decide)
  ·exact⟨cur',c2,c3,hu⟩
theorem ShpP.hurtW{Q Q1:Nat→Prop}{w w':World}{s:Value}(h:ShpP Q w s)(he:HurtW Q1 w w'):ShpP Q w' s:=by
 obtain⟨ad,l,cap,h1,h2,h3⟩:=h;refine⟨ad,l,cap,h1,h2,?_⟩
 rcases h3 with h3 |⟨g,cur,h3,h4,h5,h6⟩
 ·exact .inl h3
 ·rcases he.2.2.2.2 g (blk_lt h5)with e1 |⟨-,cu,cu',u,hu,c1,c2,c3⟩
  ·exact .inr ⟨g,cur,h3,h4,e1.trans h5,h6⟩
  ·rw[h5]at c1
   cases c1
   exact .inr ⟨g,cu',h3,h4,c2,by omega⟩
theorem ShpR.hurtW{Q Q1:Nat→Prop}{w w':World}{v:Value}(h:ShpR Q w v)(he:HurtW Q1 w w'):ShpR Q w' v:=by
 obtain⟨b,s,t,h1,h2,h3⟩:=h;exact⟨b,s,t,h1,h2.hurtW he,h3.hurtW he⟩
theorem HurtW.setCell{Q:Nat→Prop}{g i:Nat}{w:World}{cur:Array Value}(h:Bx 95 w g cur)(hB:Q g)(hi:i % 4=0)(u:Value):HurtW Q w (w.setCell ⟨g,i,none⟩ u):=by
 have hc:=Chg.setCell w g i u;refine⟨World.grownBy.os hc,World.grownBy.tape hc,World.grownBy.output hc,hc.size,fun k hk=> ?_⟩
 by_cases hkg:k=g
 ·subst hkg;refine .inr ⟨hB,cur,_,_,.inr ⟨rfl,fun x hx=> ?_⟩,h,heap_setCell_same w k i _ _ _ h,by simp⟩;rw[Array.getElem?_setIfInBounds,if_neg (by omega)]
 ·exact .inl (hc.heap hk hkg)
def SpBW(Q:Nat→Prop)(n:Nat)(w:World)(g:Nat):Prop:=Q g∧∃cs,Bx 95 w g cs∧n*4≤cs.size∧∀i,i<n→∃b a1 n1 c1 a2 n2 c2,cs[i*4+1]? =some (.bool b)∧cs[i*4+2]? =some (.slice a1 n1 c1)∧cs[i*4+3]? =some (.slice a2 n2 c2)∧ShpR Q w (.agg #[.bool b,.slice a1 n1 c1,.slice a2 n2 c2])
def SpW(Q:Nat→Prop)(w:World)(v:Value):Prop:=∃ad n cap,v= .slice ad n cap∧n≤9223372036854775807∧(n=0∨∃g,ad=some ⟨g,0,none⟩∧SpBW Q n w g)
theorem SpBW.hurtW{Q Q1:Nat→Prop}{n g:Nat}{w w':World}(h:SpBW Q n w g)(he:HurtW Q1 w w'):SpBW Q n w' g:=by
 obtain⟨h1,cs,h2,h3,h4⟩:=h;obtain⟨cs',k1,k2,k3⟩:=h2.hurtTW he;refine⟨h1,cs',k1,by omega,fun i hi=> ?_⟩;obtain⟨b,a1,n1,c1,a2,n2,c2,j1,j2,j3,j4⟩:=h4 i hi;exact⟨b,a1,n1,c1,a2,n2,c2,by rw[k3 _ (by omega)];exact j1,by rw[k3 _ (by omega)];exact j2,by rw[k3 _ (by omega)];exact j3,j4.hurtW he⟩
theorem SpW.hurtW{Q Q1:Nat→Prop}{w w':World}{v:Value}(h:SpW Q w v)(he:HurtW Q1 w w'):SpW Q w' v:=by
 obtain⟨ad,n,cap,h1,h2,h3⟩:=h;exact⟨ad,n,cap,h1,h2,h3.imp_right fun⟨g,a,b⟩=>⟨g,a,b.hurtW he⟩⟩
theorem SpW.ext{Q:Nat→Prop}{w w':World}{v:Value}(h:SpW Q w v)(he:Ext w w'):SpW Q w' v:=h.hurtW (he.hurtsW fun _=>True)
theorem TO.spw{B k B1:Nat}{w:World}{v:Value}{m:List (Int×Rat)}(h:TO B k w v m)(hB:w.heap.size≤B1):SpW (fun k=>B≤k∧k<B1) w v:=by
 obtain⟨ts,h1,h2,h3⟩:=h;obtain⟨ad,cap,e1, -,e3, -⟩:=h2.opn;refine⟨ad,_,cap,e1,by have:=h2.opn;obtain⟨ad',cap',f1,f2,f3, -⟩:=this;omega,?_⟩
 rcases Nat.eq_zero_or_pos (ts.map tmv).length with h0 |h0
 ·exact .inl h0
 obtain⟨g,cap',rest,f1,f2,f3,f4,f5,f6⟩:=h2.hold h0;rw[e1]at f1;simp only[Value.slice.injEq]at f1;refine .inr ⟨g,f1.1,⟨f2,Nat.lt_of_lt_of_le (blk_lt f6) hB⟩,_,f6,by have:=flatS_len h2.1.size;simp only[List.size_toArray,List.length_append];omega,fun i hi=> ?_⟩;rw[List.length_map]at hi;obtain⟨t,ht⟩:∃t,ts[i]? =some t:=⟨_,List.getElem?_eq_getElem hi⟩;obtain⟨x,hx⟩:∃x,m[i]? =some x:=⟨_,List.getElem?_eq_getElem (by omega)⟩;have hHT:HoldT g rest w ts:=⟨strN_tmv _,f6⟩;have hb:Bx 95 w g (flatS (ts.map tmv)++rest).toArray:=f6
 have hel:∀(j:Nat) (u:Value),(tmv t).cells[j]? =some u→(flatS (ts.map tmv)++rest).toArray[i*4+j]? =some u:=fun j u hj=>by
  rw[←hb.cell];exact hHT.at ht w (Ext.refl w) j u hj
 exact⟨t.b,t.a1,t.n1,t.c1,t.a2,t.n2,t.c2,hel 1 _ rfl,hel 2 _ rfl,hel 3 _ rfl,(h3 i t x ht hx).2.1.shpP hB⟩
set_option maxHeartbeats 4000000 in
theorem spoil5w_calls(Q:Nat→Prop)(v:Value)(w:World)(h:SpW Q w v):
  Calls Tryz.prog 26 #[v] w fun e w'=>e= .returned (.tuple #[])∧HurtW Q w w':=by
 obtain⟨ad,n,cap,rfl,hn,h2⟩:=h;have H2:=Lib.hid h2;clear h2
 go_enter Tryz.func26,Tryz.ntmps26
 go_wp2_with fail
 go_loopw [2] (fun s2 wr=>∃i:Nat,i≤n∧s2= .int .i64 (i:Int)∧HurtW Q w wr) (fun s2 _=>((n:Int) - intOf s2).toNat)
 case atStart=>exact ⟨0,Nat.zero_le _,rfl,HurtW.refl _ _⟩
 case round=>
  obtain⟨i,hi,rfl,hH⟩:=hrel
  rcases Nat.eq_or_lt_of_le hi with hin |hin
  ·subst hin
   have hlt:¬((i:Int)<(i:Int)):=by omega
   go_wp2
   go_end0
   exact⟨rfl,hH⟩
  ·have hlt:(i:Int)<(n:Int):=by omega
   obtain⟨g,rfl,hb⟩:=H2.out.resolve_left (by omega);have hb1:=hb.hurtW hH;obtain⟨hBg,cs,hbx,hsz,hel⟩:=hb1;obtain⟨b,a1,n1,c1,a2,n2,c2,j1,j2,j3,j4⟩:=hel i hin
   have hc1:wr.cell? ⟨g,i*4+1,none⟩=some (.bool b):=by rw[hbx.cell];exact j1
   have hc2:wr.cell? ⟨g,i*4+2,none⟩=some (.slice a1 n1 c1):=by rw[hbx.cell];exact j2
   have hc3:wr.cell? ⟨g,i*4+3,none⟩=some (.slice a2 n2 c2):=by rw[hbx.cell];exact j3
   have HSh:=Lib.hid j4;have HBX:=Lib.hid hbx
   have hlt4:i*4<cs.size:=by omega
   clear hel j1 j2 j3 j4 hbx hb;go_wp2_with fail;refine(spoilP_calls _ Q wr HSh.out).mono ?_;rintro e w2 ⟨rfl,h2⟩;have hb2:=HBX.out.hurtP h2 (by decide);have hf0:=hb2.free (i*4);have HV2:=Lib.hid (And.intro (hH.trans h2.w) hb2);have hc0:=hb2.cell (i*4);rw[Array.getElem?_eq_getElem hlt4]at hc0;clear hc1 hc2 hc3 h2 hb2;go_wp2;go_roundw
   case rel=>exact ⟨i+1,by omega,by simp,HV2.out.1.trans (HurtW.setCell HV2.out.2 hBg (by omega) _)⟩
   case measure=>simp [intOf];omega
open Go.ChangeShapes Go.WideShapes Go.ChangeAt
theorem cellsTs:Tryz.prog.cellsOf 31=1:=by kernel_rfl
section
variable {H:Type} {enc:TypeId×Value→H} {w:World} {base:Nat} {spare:Nat→Bool} {held:Bool}
theorem open_termsF{fuel:Nat}{cs:List Value}{x:DataW H×List MemPlace}(B:Nat)(hb:B≤4611686018427387903)(hB:∀n∈x.1.weights Tryz.prog 31,n≤B)(hf:DataW.trod enc Tryz.prog w base spare held fuel 31 cs=some x):
  ∃v l,cs=[v]∧TLE w v l:=by
 obtain⟨v',ys,h1,h2,h3, -⟩:=open_structs (R:=TmE) (F:=fun _ _=>True) B Tryz.underlying31 cellsTm (by omega) (fun fuel cs x hl hw hx=>by
  obtain⟨c,b,s,t,xs,ys,rfl,wc,hL,hd,hL2,hd2,hB2⟩:=open_termC hx;have hh:=hB2 B hw;have hE:RawE w (.agg #[.bool b,s,t]) (b,xs,ys):=⟨⟨s,t,rfl,hL,hL2⟩,hd,hd2,by show xs.length+ys.length≤_;omega⟩;have hL':=hL;have hL2':=hL2;obtain⟨a1,c1,rfl, -⟩:=hL';obtain⟨a2,c2,rfl, -⟩:=hL2'
  exact⟨(c,b,xs,ys),⟨b,a1,_,c1,a2,_,c2,rfl,hE⟩,trivial⟩) hB hf
 exact⟨v',ys,h1,h2⟩
end
end Go.Proofs.YtbmnlaepfckmkaaGreat
