/-
 The documents' vectors: a times one, and another one (Axpy).
-/
import Derived.Test.YtbmnlaepfckmkaaGreatVrfZ
import Derived.Test.YtbmnlaepfckmkaaGreatVfcZ
import Derived.Laws.MakeOwn
import Derived.Test.YtbmnlaepfckmkaaGreatComZ
namespace Go.Proofs.YtbmnlaepfckmkaaGreat
set_option maxRecDepth 100000
set_option maxHeartbeats 1000000
open Go.RowKit
set_option linter.unusedVariables false
set_option linter.unusedSimpArgs false
theorem SLQ.ql{w:World}{u:Value}{l:List RE}(h:SLQ w u l)(k:Nat)(hk:1≤k)(hk2:k≤LIM)(hl:∀e∈l,e.2.1.length+e.2.2.length≤k):QL k w u (l.map ratE):=by
 obtain⟨ad,cap,h1,h2,h3,h4⟩:=h;refine⟨ad,cap,by rw[List.length_map];exact h1,by rw[List.length_map];exact h2,h3,?_⟩
 rcases h4 with h4 |⟨g,off,h4,h5⟩
 ·exact .inl (by rw[h4];rfl)
 ·refine .inr ⟨g,off,h4,fun i x hi=> ?_⟩;rw[List.getElem?_map]at hi
  cases he:l[i]? with
  |none=>rw [he]at hi;cases hi
  |some e=>
   rw[he]at hi;simp only[Option.map_some,Option.some.injEq]at hi;subst hi;obtain⟨cs,k1,k2,k4⟩:=h5 i e he
   have:=hl e (List.mem_of_getElem? he)
   exact⟨cs,k1,k2,k4.1.isR k4.2.1 k4.2.2.1 k (by omega) (by omega) hk hk2⟩
set_option maxHeartbeats 4000000 in
theorem greatAll_calls(v:Value)(l:List RE)(w:World)(hv:SLQ w v l):
  Calls Tryz.prog 28 #[v] w fun e w'=>e= .returned (.bool (greatE l))∧Ext w w':=by
 obtain⟨ad,n,cap,hnl,rfl,hn1,hat⟩:=hv.at;have HV:=Lib.hid hv;have HN:=Lib.hid hnl;have HAT:=Lib.hid hat;clear hnl hat hv
 go_enter Tryz.func28,Tryz.ntmps28
 go_wp2_with fail
 go_loopw [3] (fun s wr=>∃i:Nat,i≤n∧s= .int .i64 (i:Int)∧Hid (∀e∈l.take i,wordsE e≤6)∧Ext w wr) (fun s _=>((n:Int) - intOf s).toNat)
 case atStart=>exact ⟨0,Nat.zero_le _,rfl,Lib.hid (fun e he=>by simp at he),Ext.refl _⟩
 case round=>
  obtain⟨i,hi,rfl,hS,hE0⟩:=hrel
  rcases Nat.eq_or_lt_of_le hi with hin |hin
  ·subst hin
   have hlt:¬((i:Int)<(i:Int)):=by omega
   have hall:∀e∈l,wordsE e≤6:=by have:=hS.out;rwa [HN.out,List.take_length]at this
   have hG:greatE l=(decide (30<i) || decide (18<weightE l)):=by
    rw[greatE_rest hall,←HN.out]
   have HG:=Lib.hid hG;have HALL:=Lib.hid hall;clear hG hall
   by_cases h30:30<i
   ·have h30':(30:Int)<(i:Int):=by omega
    have HR:Hid (greatE l=true):=Lib.hid (by rw[HG.out,decide_eq_true h30];rfl)
    go_wp2;go_ret
    exact⟨by rw[HR.out]<;>rfl,hE0⟩
   ·have h30':¬(30:Int)<(i:Int):=by omega
    have HR:Hid (greatE l=decide (18<weightE l)):=Lib.hid (by rw[HG.out,decide_eq_false h30];rfl)
    go_wp2_with fail;refine(weight_calls _ l wr (HV.out.ext hE0) (by rw[←HN.out];omega) HALL.out).mono ?_;rintro e w2 ⟨rfl,e2⟩;obtain⟨p,hp⟩:∃p,p=weightE l:=⟨_,rfl⟩;rw[←hp]at HR ⊢;clear hp
    by_cases h18:18<p
    ·have h18':(18:Int)<(p:Int):=by omega
     have HR2:Hid (greatE l=true):=Lib.hid (by rw[HR.out,decide_eq_true h18])
     go_wp2;go_ret
     exact⟨by rw[HR2.out]<;>rfl,hE0.trans e2⟩
    ·have h18':¬(18:Int)<(p:Int):=by omega
     have hd18:decide ((18:Int)<(p:Int))=false:=decide_eq_false h18'
     have HR2:Hid (greatE l=false):=Lib.hid (by rw[HR.out,decide_eq_false h18])
     go_wp2;go_ret
     exact⟨by rw[HR2.out]<;>rfl,hE0.trans e2⟩
  ·have hlt:(i:Int)<(n:Int):=by omega
   obtain⟨⟨xb,xs,xt⟩,hx⟩:∃x,l[i]? =some x:=⟨_,List.getElem?_eq_getElem (by rw[←HN.out];exact hin)⟩;obtain⟨g,off,rfl,b,a1,n1,c1,a2,n2,c2, -, -,hcell⟩:=HAT.out i _ hx;obtain⟨hc0,hc1,hc2,hR⟩:=hcell wr hE0;have HRX:=Lib.hid hR;have HX:=Lib.hid hx;obtain⟨p,hp⟩:∃p,p=xs.length+xt.length:=⟨_,rfl⟩;have HP:=Lib.hid hp;obtain⟨i1,hi1⟩:∃i1,i1=i+1:=⟨_,rfl⟩
   have hi1':(i:Int)+1=(i1:Int):=by omega
   have hi1n:i1≤n:=by omega
   have HI1:=Lib.hid hi1;clear hcell hx hR hp hi1;go_wp2_with fail;refine(rqwords3_calls _ xb xs xt wr HRX.out.1 HRX.out.2.2.2).mono ?_;rintro e w2 ⟨rfl,e2⟩;rw[←HP.out]
   by_cases h6:6<p
   ·have h6':(6:Int)<(p:Int):=by omega
    have HR:Hid (greatE l=true):=Lib.hid (greatE_words (i:=i) (e:=(xb,xs,xt)) HX.out (by show 6<xs.length+xt.length;rw[←HP.out];exact h6))
    go_wp2;go_ret
    exact⟨by rw[HR.out]<;>rfl,hE0.trans e2⟩
   ·have h6':¬(6:Int)<(p:Int):=by omega
    have hs:∀e∈l.take i1,wordsE e≤6:=by
     rw[HI1.out,List.take_add_one,HX.out];intro e he
     rcases List.mem_append.1 he with he |he
     ·exact hS.out e he
     ·simp only[Option.toList_some,List.mem_singleton]at he;subst he
      show xs.length+xt.length≤6
      rw[←HP.out]
      omega
    have HS:=Lib.hid hs;clear hs;go_wp2;go_roundw
    case rel=>exact ⟨i1,hi1n,rfl,HS,hE0.trans e2⟩
    case measure=>have:=HI1.out;simp[intOf];omega
def gaN(xs:List Rat)(i:Nat):List (Int×Rat):=(List.range i).map fun(j:Nat)=>((j:Int),xs.getD j 0)
theorem gaN_snoc{xs:List Rat}{i:Nat}{x:Rat}(h:xs[i]? =some x):gaN xs (i+1)=gaN xs i++ [((i:Int),x)]:=by
 unfold gaN;rw[List.range_succ,List.map_append,List.map_singleton,List.getD_eq_getElem?_getD,h]
 rfl
theorem gaN_len(xs:List Rat)(i:Nat):(gaN xs i).length=i:=by unfold gaN;simp
def GaJ(w wr:World)(k i:Nat)(xs:List Rat)(lv:Value)(vs:List Value):Prop:=Ext w wr∧LS 95 4 w.heap.size wr lv vs∧vs.length=i∧∃ps:Ps,vs=(tsP ps).map tmv∧lP ps=gaN xs i∧∀p∈ps,IsR w (ratv p.1) p.2 k
theorem GaJ.tl{w wr:World}{k i:Nat}{xs:List Rat}{lv:Value}{vs:List Value}(h:GaJ w wr k i xs lv vs):TL k wr lv (gaN xs i):=by
 obtain⟨h1,h2,h3,ps,rfl,h5,h6⟩:=h;rw[←h5]
 exact LS.tl h2 fun p hp=>(h6 p hp).ext h1
theorem GaJ.app{w wr w7:World}{k i:Nat}{xs:List Rat}{lv v':Value}{vs:List Value}{x:Rat}{b:Bool}{a1 a2:Option Addr}{n1 c1 n2 c2:Nat}(h:GaJ w wr k i xs lv vs)(hE:Ext w w7)(hls:LS 95 4 w.heap.size w7 v' (vs++ [.agg #[.int .i64 (i:Int),.bool b,.slice a1 n1 c1,.slice a2 n2 c2]]))(hx:xs[i]? =some x)(hR:IsR w (.agg #[.bool b,.slice a1 n1 c1,.slice a2 n2 c2]) x k):GaJ w w7 k (i+1) xs v' (vs++ [.agg #[.int .i64 (i:Int),.bool b,.slice a1 n1 c1,.slice a2 n2 c2]]):=by
 obtain⟨h1,h2,h3,ps,rfl,h5,h6⟩:=h;refine⟨hE,hls,by rw[List.length_append,h3];rfl,ps++ [(⟨i,b,a1,n1,c1,a2,n2,c2⟩,x)],?_,?_,fun p hp=> ?_⟩
 ·rw[tsP_snoc,List.map_append]
  rfl
 ·rw[lP_snoc,h5,gaN_snoc hx]
 ·rcases List.mem_append.1 hp with hp |hp
  ·exact h6 p hp
  ·rw[List.mem_singleton]at hp;subst hp;exact hR
theorem dotS_snoc(f:Int→Rat)(ys:List Rat)(y:Rat):∀c,dotS f (ys++ [y]) c=dotS f ys c+f (c+(ys.length:Int))*y:=by
 induction ys with
 |nil=>intro c;simp[dotS,Rat.zero_add,Rat.add_zero]
 |cons x ys ih=>
  intro c;rw[List.cons_append];simp only[dotS,ih];rw[List.length_cons,Rat.add_assoc,show c+1+(ys.length:Int)=c+((ys.length+1:Nat):Int)by omega]
set_option maxHeartbeats 4000000 in
theorem dot5_calls(k:Nat)(v u:Value)(l:List (Int×Rat))(xs:List Rat)(w:World)(hl:TL k w v l)(hx:QL k w u xs)(hk:k≤1000)(hn:l.length≤1000)(hnx:xs.length≤1000):
  Calls Tryz.prog 30 #[v,u] w fun e w'=>∃v',e= .returned v'∧FrQd w.heap.size w' v' (dotV l xs)∧szD (dotV l xs)≤68719476736∧Ext w w':=by
 obtain⟨ad,n,cap,hnl,rfl,hn1,hat⟩:=hx.at;rw[←hnl]at hnx;have HN:=Lib.hid hnl;have HAT:=Lib.hid hat;have HL:=Lib.hid hl;have HNL:=Lib.hid hn;obtain⟨G,hG⟩:∃G,G=l.length*(5*k+1)+1:=⟨_,rfl⟩
 have hGb:G≤5001001:=by
  have:l.length*(5*k+1)≤1000*5001:=Nat.mul_le_mul (by omega) (by omega)
  omega
 have HG:=Lib.hid hG;obtain⟨C,hC1,hC2⟩:∃C:Nat,C≤5006002∧5006002≤C:=⟨5006002,Nat.le_refl _,Nat.le_refl _⟩;clear hnl hx hat hl hn hG
 obtain⟨q,hq⟩:∃q:Nat→Rat,q=fun i=>dotS (getV l) (xs.take i) 0:=⟨_,rfl⟩
 have hq0:q 0=0:=by rw[hq];rfl
 have hqn:q n=dotV l xs:=by rw[hq,dotV_sum];simp only;rw[HN.out,List.take_length]
 have hqs:∀(i:Nat) (x:Rat),xs[i]? =some x→q (i+1)=q i+getV l (i:Int)*x:=fun i x hi=>by
  rw[hq]
  simp only
  rw[take_next hi,dotS_snoc,Int.zero_add,List.length_take,Nat.min_eq_left (Nat.le_of_lt (List.getElem?_eq_some_iff.1 hi).1)]
 have HQ0:=Lib.hid hq0;have HQN:=Lib.hid hqn;have HQS:=Lib.hid hqs;clear hq hq0 hqn hqs;rw[←HQN.out]
 go_enter Tryz.func30,Tryz.ntmps30
 obtain⟨w1,hw1,e1,b1,s1⟩:=alloc1 w #[.bool false,.slice none 0 0,.slice none 0 0] 56;go_wp2_with fail;rw[←hw1];refine(rqsmall3_calls 0 _ (by omega) (by omega)).mono ?_;rintro e w2 ⟨v2,rfl,q2,e2⟩;obtain⟨b,ad2,l2,cap2,bd,m2,dap,rfl,q2⟩:=q2.opn;have Hq2:=Lib.hid q2;obtain⟨w3,hw3,e3,b3,s3⟩:=alloc1 w2 #[.bool b,.slice ad2 l2 cap2,.slice bd m2 dap] 56;clear q2;go_wp2_with fail;rw[←hw3];have HJ:DtJ w w3 w2.heap.size (0*C+1) (q 0):=⟨(e1.trans e2).trans e3,_,_,_,_,_,_,_,b3,by rw[HQ0.out];exact(Hq2.out.ext e3).mono e1.size,by rw[HQ0.out];have:szD 0≤1:=(by decide);rw[Nat.zero_mul];exact this⟩;have HJ0:=Lib.hid HJ
 have hs2:w.heap.size<w2.heap.size:=by have:=e1.size;have:=e2.size;have:=b1.lt;have:=s1;omega
 obtain⟨g5,hg5⟩:∃g5,g5=w2.heap.size:=⟨_,rfl⟩;rw[←hg5]at HJ0 hs2 ⊢;have B1:Bx 56 w3 w.heap.size #[.bool false,.slice none 0 0,.slice none 0 0]:=(b1.ext e2).ext e3;clear HJ hw1 hw3 hg5 Hq2
 go_loopw [6] (fun s6 wr=>∃i:Nat,i≤n∧s6= .int .i64 (i:Int)∧Hid (DtJ w wr g5 (i*C+1) (q i)∧Bx 56 wr w.heap.size #[.bool false,.slice none 0 0,.slice none 0 0])) (fun s6 _=>((n:Int) - intOf s6).toNat)
 case atStart=>exact ⟨0,Nat.zero_le _,rfl,Lib.hid ⟨HJ0.out,B1⟩⟩
 case round=>
  obtain⟨i,hi,rfl,hH⟩:=hrel;obtain⟨⟨hE0,rb,r1,m1,d1,r2,m2',d2,hbx,hq,hsz⟩,hB0⟩:=hH.out;have HQ:=Lib.hid hq;have HSZ:=Lib.hid hsz;clear hq hsz hH HJ0 B1 b1 b3 e1 e2 e3 s1 s3
  rcases Nat.eq_or_lt_of_le hi with hin |hin
  ·subst hin
   have hlt:¬((i:Int)<(i:Int)):=by omega
   have hcx0:=hbx.cell 0;have hcx1:=hbx.cell 1;have hcx2:=hbx.cell 2;have hb:=hB0;have hc0:=hb.cell 0;have hc1:=hb.cell 1;have hc2:=hb.cell 2;have hf0:=hb.free 0;have hf1:=hb.free 1;have hf2:=hb.free 2;clear hbx;have hszw:=hE0.size;go_wp2;refine ret_box 4 56 w.heap.size 56 _ _ (by kernel_rfl) rfl (((hb.set 0 _).set 1 _).set 2 _) Tryz.underlying56 rfl (by kernel_rfl) rfl ?_;exact⟨_,rfl,HQ.out.chgN (Chg.trans (Chg.trans (Chg.setCell _ w.heap.size 0 _) (Chg.setCell _ w.heap.size 1 _)) (Chg.setCell _ w.heap.size 2 _)) hB0 (((hb.set 0 _).set 1 _).set 2 _) (by decide) (by decide),by have:=HSZ.out;have h3:i*C≤1000*5006002:=Nat.mul_le_mul (by omega) hC1;omega,hE0.step (Chg.trans (Chg.trans (Chg.setCell _ w.heap.size 0 _) (Chg.setCell _ w.heap.size 1 _)) (Chg.setCell _ w.heap.size 2 _)) (by omega)⟩
  ·have hlt:(i:Int)<(n:Int):=by omega
   obtain⟨x,hx⟩:∃x,xs[i]? =some x:=⟨_,List.getElem?_eq_getElem (by rw[←HN.out];exact hin)⟩;obtain⟨g,off,rfl,b',a1,n1,c1,a2,n2,c2,hcell,hR⟩:=HAT.out i x hx;have HC:=Lib.hid hcell
   have hmul:i*C+C=(i+1)*C:=(Nat.succ_mul i C).symm
   have hic:i*C≤1000*5006002:=Nat.mul_le_mul (by omega) hC1;have HX:=Lib.hid hR;have HQS1:=Lib.hid (HQS.out i x hx);obtain⟨y,hy⟩:∃y,y=getV l (i:Int):=⟨_,rfl⟩;rw[←hy]at HQS1;have HY:=Lib.hid hy;clear hx hR hcell hy;go_wp2_with fail;have h5g:g5<wr.heap.size:=hbx.lt;refine wpP [⟨11,g5,56,PP.frQdS (q i+y*x) ((i+1)*C+1)⟩] [PP.val (.agg #[.bool rb,.slice r1 m1 d1,.slice r2 m2' d2]),PP.val (v),PP.val (.int .i64 (i:Int)),PP.frQdS y G,PP.val (.slice (some ⟨g,off,none⟩) n cap),PP.val (.int .i64 (i:Int)),PP.val (.pointer (some ⟨g,off+i*3,none⟩)),PP.val (.agg #[.bool b',.slice a1 n1 c1,.slice a2 n2 c2]),PP.frQd x,PP.frQdS (y*x) (G+5*k),PP.frQdS (q i+y*x) ((i+1)*C+1),PP.any] [] [11,10,9,8,7,6,5,4,3,2,1,0] ?_ ?_ ?_ ?_ ?_
   ·intro x hx;simp only[List.mem_singleton]at hx;subst hx;exact⟨by show g5<wr.heap.size;omega,rfl⟩
   ·intro x hx;simp only[List.mem_singleton]at hx;subst hx;rfl
   ·intro x hx y hy h;simp only[List.mem_singleton]at hx hy;subst hx hy;exact absurd rfl h
   ·refine⟨?_,?_,?_,?_,?_,?_,?_,?_,?_,?_,?_,?_,trivial⟩
    ·intro f w6 hG hp hl;have hE:Ext wr w6:=hG;change OpGoal _ _ _ f w6 Ext _;exact og_load (P:=Tryz.prog) _ _ g5 _ _ _ rfl rfl rfl (hbx.ext hE) Tryz.underlying56 rfl (by kernel_rfl) rfl
    ·intro f w6 hG hp hl;simp only[OpGoal];go_simp;exact⟨_,rfl,Ext.refl _,rfl⟩
    ·intro f w6 hG hp hl;simp only[OpGoal];go_simp;exact⟨_,rfl,Ext.refl _,rfl⟩
    ·intro f w6 hG hp hl;have hE:Ext wr w6:=hG;have hS:=hE.size;have q15:=tE hp 0 1 rfl rfl rfl;have q16:=tE hp 1 2 rfl rfl rfl;change OpGoal _ _ _ f w6 Ext _;refine oC #[f 1,f 2] Tryz.func92 rfl rfl ?_;rw[q15,q16];refine(get5_calls k _ (i:Int) l _ (HL.out.ext (hE0.trans hE)) (by omega) (by have:=HNL.out;omega)).mono ?_;rw[←HY.out,←HG.out];rintro e w' ⟨v',rfl,h1,h3,h2⟩;exact⟨v',rfl,h2,h1.mono hS,h3⟩
    ·intro f w6 hG hp hl;simp only[OpGoal];go_simp;exact⟨_,rfl,Ext.refl _,rfl⟩
    ·intro f w6 hG hp hl;simp only[OpGoal];go_simp;exact⟨_,rfl,Ext.refl _,rfl⟩
    ·intro f w6 hG hp hl;have q18:=tE hp 0 4 rfl rfl rfl;have q19:=tE hp 1 5 rfl rfl rfl;simp only[OpGoal];go_simp;exact⟨_,rfl,Ext.refl _,rfl⟩
    ·intro f w6 hG hp hl;have hE:Ext wr w6:=hG;have q20:=tE hp 0 6 rfl rfl rfl;change OpGoal _ _ _ f w6 Ext _;exact og_loadAt (P:=Tryz.prog) _ _ g (off+i*3) _ _ rfl rfl q20 (fun j v h=>HC.out _ (hE0.trans hE) j v h) Tryz.underlying41 rfl (by kernel_rfl) rfl
    ·intro f w6 hG hp hl;have hE:Ext wr w6:=hG;have hS:=hE.size;have q21:=tE hp 0 7 rfl rfl rfl;change OpGoal _ _ _ f w6 Ext _;refine oC #[f 7] Tryz.func31 rfl rfl ?_;rw[q21];refine(rqofR_calls _ x k _ (HX.out.ext (hE0.trans hE)) (by omega)).mono ?_;rintro e w' ⟨v',rfl,h1,h2⟩;exact⟨v',rfl,h2,h1.mono hS⟩
    ·intro f w6 hG hp hl;have hE:Ext wr w6:=hG;have hS:=hE.size;have q17:=tellV hp 0 3 rfl rfl (fun _=>hE);have q22:=tellV hp 1 8 rfl rfl (fun _=>hE);change OpGoal _ _ _ f w6 Ext _;refine oC #[f 3,f 8] Tryz.func39 rfl rfl ?_;refine(rqmul3_calls _ _ y x G (5*k) _ q17.1.cq q22.cq q17.2 (szD_of HX.out.sz) (by omega)).mono ?_;rintro e w' ⟨v',rfl,h1,h3,h2⟩;exact⟨v',rfl,h2,h1.mono hS,h3⟩
    ·intro f w6 hG hp hl;have hE:Ext wr w6:=hG;have hS:=hE.size;have q14:=tE hp 0 0 rfl rfl rfl;have q23:=tellV hp 1 9 rfl rfl (fun _=>hE);change OpGoal _ _ _ f w6 Ext _;refine oC #[f 0,f 9] Tryz.func37 rfl rfl ?_;rw[q14];refine(rqadd3_calls _ _ (q i) (y*x) (i*C+1) (G+5*k) _ (HQ.out.ext hE).cq q23.1.cq HSZ.out q23.2 (by omega)).mono ?_;rintro e w' ⟨v',rfl,h1,h3,h2⟩;exact⟨v',rfl,h2,h1.mono hS,by omega⟩
    ·intro f w6 hG hp hl;have hE:Ext wr w6:=hG;have hS:=hE.size;have q24:=tellV hp 0 10 rfl rfl (fun _=>hE);intro hg0;change OpGoal _ _ _ f w6 (Chg _) _;obtain⟨⟨s',t',hv,hn,hm⟩,hsz⟩:=q24;exact og_store (P:=Tryz.prog) _ _ _ g5 _ _ _ (PP.frQdS _ _:PP _).p rfl rfl rfl hv (show Bx 56 w6 _ _ from hg0.trans hbx) (by kernel_rfl) rfl (all3 rfl hn.oneCell hm.oneCell) (fun w' h=>⟨⟨s',t',rfl,hn.chg h (by omega),hm.chg h (by omega)⟩,hsz⟩)
   ·intro f w6 hG hp;obtain⟨cs0,hbx0,hz0⟩:∃cs,Bx 56 w6 g5 cs∧(PP.frQdS (q i+y*x) ((i+1)*C+1):PP wr.heap.size).p (.agg cs) w6:=endS hp 11 (by decide);clear hp;obtain⟨hz1,hz2⟩:=hz0;obtain⟨b6,a6,l6,cap6,a7,l7,cap7,hvv,hz1⟩:=hz1.opn
    cases hvv
    have Hq6:=Lib.hid hz1;have Z6:=Lib.hid hz2;have hsz6:=hE0.size;have E6:Ext w w6:=hE0.stepS hG (by simp;omega);have B06:Bx 56 w6 w.heap.size #[.bool false,.slice none 0 0,.slice none 0 0]:=hB0.chgS hG (by simp;omega);clear hz1 hz2;go_wp2;go_roundw
    case rel=>
     refine⟨i+1,by omega,congrArg (Value.int .i64) (by omega),Lib.hid ⟨⟨E6,_,_,_,_,_,_,_,hbx0,?_,?_⟩,B06⟩⟩
     ·rw[HQS1.out];exact Hq6.out.mono hsz6
     ·rw[HQS1.out];exact Z6.out
    case measure=>simp [intOf];omega
theorem TO.val{B k:Nat}{w:World}{v:Value}{l:List (Int×Rat)}(h:TO B k w v l):∃ad cap,v= .slice ad l.length cap:=by
 obtain⟨ts,h1,h2, -⟩:=h;obtain⟨ad,cap,e, -⟩:=h2.opn;rw[List.length_map,h1]at e;exact⟨ad,cap,e⟩
def ratT(l:List TE):List (Int×Rat):=l.map fun e=>(e.1,ratE e.2)
def OV{α:Type}(t:TypeId)(B:Nat)(R:World→Value→α→Prop)(w:World)(v:Value)(ys:List α):Prop:=∃vs,w.ownsRow B t 1 v vs.length vs∧vs.length=ys.length∧∀(i:Nat) (u:Value) (y:α),vs[i]? =some u→ys[i]? =some y→R w u y
theorem ownsRow_monoI{B B' e size n:Nat}{w:World}{v:Value}{xs:List Value}(h:w.ownsRow B e size v n xs)(hB:B'≤B):w.ownsRow B' e size v n xs:=by
 refine⟨h.1,?_⟩
 rcases h.2 with h2 |⟨g,cap,cur,h1,h2,h3⟩
 ·exact .inl h2
 ·exact .inr ⟨g,cap,cur,h1,Nat.le_trans hB h2,h3⟩
theorem ownsRow_ge{B e size n:Nat}{w:World}{v:Value}{xs:List Value}(h:w.ownsRow B e size v n xs):∀g,v.ownBlock=some g→B≤g:=by
 intro g hg
 rcases h.2 with⟨h1,h2⟩ |⟨g',cap,cur,h1,h2,h3,h4⟩
 ·rw[h1]at hg;cases hg
 ·rw[h1]at hg;simp only[Value.ownBlock,Option.some.injEq]at hg;subst hg;exact h2
theorem OV.opn{α:Type}{t:TypeId}{B:Nat}{R:World→Value→α→Prop}{w:World}{v:Value}{ys:List α}(h:OV t B R w v ys):∃ad cap,v= .slice ad ys.length cap∧ys.length≤cap∧cap≤9223372036854775807∧∀(i:Nat) (y:α),ys[i]? =some y→∃g,ad=some ⟨g,0,none⟩∧B≤g∧∃u,(∀wz,Ext w wz→wz.cell? ⟨g,i,none⟩=some u)∧R w u y:=by
 obtain⟨vs,h0,hl,hR⟩:=h
 rcases h0.2 with⟨h1,h2⟩ |⟨g,cap,cur,h1,h2,h3,h4,h5,h6,h7⟩
 ·refine⟨none,0,by rw[h1,←hl,h2],by omega,by omega,fun i x hi=> ?_⟩
  have:=(List.getElem?_eq_some_iff.1 hi).1
  omega
 ·refine⟨_,cap,by rw[h1,hl],by omega,by unfold maxLen at h5;omega,fun i y hi=> ?_⟩;have hlt:=(List.getElem?_eq_some_iff.1 hi).1;refine⟨g,rfl,h2,vs[i],fun wz hz=> ?_,hR i _ y (List.getElem?_eq_getElem (by omega)) hi⟩;have hb:Bx t wz g cur:=hz.blk h3;rw[hb.cell i];have h8:=congrArg (fun l=>l[i]?) h7;simp only[Nat.mul_one]at h8;rw[List.getElem?_take,if_pos (by omega),Array.getElem?_toList]at h8;rw[h8];exact List.getElem?_eq_getElem (by omega)
theorem OV.sv{α:Type}{t:TypeId}{B:Nat}{R:World→Value→α→Prop}{w:World}{v:Value}{ys:List α}(h:OV t B R w v ys):SV R w v ys:=by
 obtain⟨ad,cap,h1,h2,h3,h4⟩:=h.opn;refine⟨ad,cap,h1,h2,h3,?_⟩
 match ys,h4 with
 | [],_=>exact .inl rfl
 |y::ys,h4=>
  obtain⟨g,rfl, -⟩:=h4 0 y rfl;refine .inr ⟨g,0,rfl,fun i x hx=> ?_⟩;obtain⟨g',e, -,u,k1,k2⟩:=h4 i x hx
  cases e
  exact⟨u,by rw[Nat.zero_add];exact k1 w (Ext.refl w),k2⟩
open Go.ChangeShapes Go.WideShapes Go.ChangeAt
theorem cellsTs:Tryz.prog.cellsOf 31=1:=by kernel_rfl
section
variable {H:Type} {enc:TypeId×Value→H} {w:World} {base:Nat} {spare:Nat→Bool} {held:Bool}
theorem open_termsF{fuel:Nat}{cs:List Value}{x:DataW H×List MemPlace}(B:Nat)(hb:B≤4611686018427387903)(hB:∀n∈x.1.weights Tryz.prog 31,n≤B)(hf:DataW.trod enc Tryz.prog w base spare held fuel 31 cs=some x):
  ∃v l,cs=[v]∧TLE w v l:=by
 obtain⟨v',ys,h1,h2,h3, -⟩:=open_structs (R:=TmE) (F:=fun _ _=>True) B Tryz.underlying31 cellsTm (by omega) (fun fuel cs x hl hw hx=>by
  obtain⟨c,b,s,t,xs,ys,rfl,wc,hL,hd,hL2,hd2,hB2⟩:=open_termC hx;have hh:=hB2 B hw;have hE:RawE w (.agg #[.bool b,s,t]) (b,xs,ys):=⟨⟨s,t,rfl,hL,hL2⟩,hd,hd2,by show xs.length+ys.length≤_;omega⟩;have hL':=hL;have hL2':=hL2;obtain⟨a1,c1,rfl, -⟩:=hL';obtain⟨a2,c2,rfl, -⟩:=hL2'
  exact⟨(c,b,xs,ys),⟨b,a1,_,c1,a2,_,c2,rfl,hE⟩,trivial⟩) hB hf
 exact⟨v',ys,h1,h2⟩
end
end Go.Proofs.YtbmnlaepfckmkaaGreat
