/-
 The document's fractions, walked (II).
-/
import Derived.Test.YthoibjnkhkjnjaaGreatRtcZ
namespace Go.Proofs.YthoibjnkhkjnjaaGreat
set_option maxRecDepth 100000
set_option maxHeartbeats 1000000
open Go.RowKit
set_option linter.unusedVariables false
set_option linter.unusedSimpArgs false
theorem lowest3z_calls(v u:Value)(z:Int)(d:Nat)(w:World)(hv:CZ w v z)(hu:IsN .i64 TK w u d)(hd:0<d)(hsz:szT z≤68719476736)(hsd:sz TK d≤68719476736):
  Calls Tryz.prog 45 #[v,u] w fun e w'=>∃v',e= .returned v'∧FrQd w.heap.size w' v' (mkRat z d)∧Ext w w':=by
 obtain⟨b,s,n,rfl,hs,rfl⟩:=hv.parts;rw[szT_sgn]at hsz;exact lowest3_calls b s u n d w hs hu hd hsz hsd
theorem szD_le{q:Rat}{k:Nat}(h:szD q≤k):szT q.num≤k∧sz TK q.den≤k:=by unfold szD at h;omega
theorem rqto3_calls(v:Value)(q:Rat)(w:World)(hv:CQ w v q)(hsz:szD q≤68719476736):
  Calls Tryz.prog 26 #[v] w fun e w'=>∃v',e= .returned v'∧FrQ w.heap.size w' v' q∧Ext w w':=by
 obtain⟨s,t,rfl,hs,ht⟩:=hv;have hk:=szD_le hsz;have hZ:CZ w (.agg #[.bool (decide (q.num<0)),s]) q.num:=⟨s,rfl,hs⟩
 go_enter Tryz.func26,Tryz.ntmps26
 go_wp2_with fail;obtain⟨w1,hw1,e1,b1,b2,s1⟩:=alloc2 w #[.bool (decide (q.num<0)),s,t] #[.bool false,.slice none 0 0,.slice none 0 0] 66 36;rw[←hw1];clear hw1;refine wpP [⟨7,(w.heap.size+1),36,PP.frQ q⟩] [PP.val (.pointer (some ⟨w.heap.size,0,none⟩)),PP.val (.agg #[.bool (decide (q.num<0)),s]),PP.frZ q.num,PP.val (.pointer (some ⟨w.heap.size,2,none⟩)),PP.val (t),PP.frN 61 .u64 W q.den,PP.frQ q,PP.any] [] [7,6,5,4,3,2,1,0] ?_ ?_ ?_ ?_ ?_
 ·intro x hx;simp only[List.mem_singleton]at hx;subst hx;exact⟨by show(w.heap.size+1)<w1.heap.size;omega,rfl⟩
 ·intro x hx;simp only[List.mem_singleton]at hx;subst hx;rfl
 ·intro x hx y hy h;simp only[List.mem_singleton]at hx hy;subst hx hy;exact absurd rfl h
 ·refine⟨?_,?_,?_,?_,?_,?_,?_,?_,trivial⟩
  ·intro f w2 hG hp hl;simp only[OpGoal];go_simp;exact⟨_,rfl,Ext.refl _,rfl⟩
  ·intro f w2 hG hp hl;have hE:Ext w1 w2:=hG;have q3:=tE hp 0 0 rfl rfl rfl;have hbx:=b1.ext hE;have hcell0:=hbx.cell 0;have hcell1:=hbx.cell 1;have hcell2:=hbx.cell 2;simp only[OpGoal];go_simp;exact⟨_,rfl,Ext.refl _,rfl⟩
  ·intro f w2 hG hp hl;have hE:Ext w1 w2:=hG;have hS:=hE.size;have q4:=tE hp 0 1 rfl rfl rfl;change OpGoal _ _ _ f w2 Ext _;refine oC #[f 1] Tryz.func42 rfl rfl ?_;rw[q4];refine(zto2_calls _ q.num _ (hZ.ext (e1.trans hE)) hk.1).mono ?_;rintro e w' ⟨v',rfl,h1,h2⟩;exact⟨v',rfl,h2,h1.mono hS⟩
  ·intro f w2 hG hp hl;simp only[OpGoal];go_simp;exact⟨_,rfl,Ext.refl _,rfl⟩
  ·intro f w2 hG hp hl;have hE:Ext w1 w2:=hG;have q6:=tE hp 0 3 rfl rfl rfl;have hcell:=(b1.ext hE).cell 2;simp only[OpGoal];go_simp;exact⟨_,rfl,Ext.refl _,rfl⟩
  ·intro f w2 hG hp hl;have hE:Ext w1 w2:=hG;have hS:=hE.size;have q7:=tE hp 0 4 rfl rfl rfl;change OpGoal _ _ _ f w2 Ext _;refine oC #[f 4] Tryz.func43 rfl rfl ?_;rw[q7];refine(rto01_calls _ q.den _ ((ht.isN TK_gt (by rw[LIM_eq];omega)).ext (e1.trans hE)) hk.2).mono ?_;rintro e w' ⟨v',rfl,h1,h2⟩;exact⟨v',rfl,h2,h1.mono hS⟩
  ·intro f w2 hG hp hl;have hE:Ext w1 w2:=hG;have q5:=tellV hp 0 2 rfl rfl (fun _=>hE);have q8:=tellV hp 1 5 rfl rfl (fun _=>hE);obtain⟨s',hv,hn⟩:=q5;obtain⟨ad,cap,rfl⟩:=hn.slice;obtain⟨ad2,cap2,hv2⟩:=FrN.slice q8;simp only[OpGoal];go_simp;exact⟨_,rfl,Ext.refl _,_,_,rfl,hn,hv2▸q8⟩
  ·intro f w2 hG hp hl;have hE:Ext w1 w2:=hG;have hS:=hE.size;have q9:=tellV hp 0 6 rfl rfl (fun _=>hE);intro hg0;change OpGoal _ _ _ f w2 (Chg _) _;obtain⟨s',t',hv,hn,hm⟩:=q9;exact og_store (P:=Tryz.prog) _ _ _ (w.heap.size+1) _ _ _ (PP.frQ _:PP _).p rfl rfl rfl hv (show Bx 36 w2 _ _ from hg0.trans b2) (by kernel_rfl) rfl (all3 rfl hn.oneCell hm.oneCell) (fun w' h=>⟨s',t',rfl,hn.chg h (by omega),hm.chg h (by omega)⟩)
 ·intro f w2 hG hp;obtain⟨cs0,hbx0,hz0⟩:∃cs,Bx 36 w2 (w.heap.size+1) cs∧(PP.frQ q:PP w1.heap.size).p (.agg cs) w2:=endS hp 7 (by decide);clear hp;have hz1:=hz0.mono (show w.heap.size≤_ by omega);obtain⟨s',t',hvv,hnn,hmm⟩:=hz0
  cases hvv
  go_wp2;refine ret_box 2 36 (w.heap.size+1) 36 _ _ (by kernel_rfl) rfl hbx0 Tryz.underlying36 rfl (by kernel_rfl) rfl ?_;exact⟨_,rfl,hz1,e1.stepS hG (by simp)⟩
theorem rqof3_calls(v:Value)(n:Int)(d:Nat)(w:World)(hv:IsQ w v n d)(hsn:szT n≤68719476736)(hsd:sz TK d≤68719476736):
  Calls Tryz.prog 27 #[v] w fun e w'=>∃v',e= .returned v'∧FrQd w.heap.size w' v' (mkRat n d)∧Ext w w':=by
 have hp:=hv.pos;obtain⟨b,s,t,m,d0,rfl,hs,hn,ht,hd⟩:=hv;have hZ:=Lib.hid (show IsZ w (.agg #[.bool b,s]) n from⟨_,_,_,rfl,hs,hn⟩);have Hn:=Lib.hid hn;clear hn
 have hs0:sz TK d0≤68719476736:=by
  rw[hd]at hsd
  split at hsd
  ·rename_i h;rw[h];exact Nat.zero_le _
  ·exact hsd
 have hz:= @szT_zero d0
 go_enter Tryz.func27,Tryz.ntmps27
 obtain⟨w1,hw1,e1,b1,b2,s1⟩:=alloc2 w #[.bool b,s,t] #[.bool false,.slice none 0 0,.slice none 0 0] 36 66;have hc2:=b1.cell 2;rw[hw1]at hc2;go_wp2_with fail;rw[←hw1];clear hc2;refine(rof01_calls t d0 _ (ht.ext e1) hs0).mono ?_;rintro e w2 ⟨vd,rfl,hvd,e2⟩;obtain⟨add,capd,rfl⟩:=hvd.slice;have hk0:=(b1.ext e2).cell 0;have hk1:=(b1.ext e2).cell 1
 rcases Nat.eq_zero_or_pos d0 with h0 |h0
 ·subst h0
  have hz0:sz TK 0=0:=rfl
  have hd1:d=1:=by rw[hd];rfl
  subst hd1;rw[hz0]at hvd ⊢;clear hd hz hz0 hs0 hk0 hk1;obtain⟨w3,hw3,e3,b3,s3⟩:=alloc1 w2 #[.int .i64 1] 3;have hone:=isN_one (k:= .i64) (B:=TK) w2 1 3 (by rw[TK_eq];omega);rw[show ((1:Nat):Int)=1 from rfl,←hw3]at hone;have hk0:=((b1.ext e2).ext e3).cell 0;have hk1:=((b1.ext e2).ext e3).cell 1;have hk2:=((b1.ext e2).ext e3).cell 2;rw[hw3]at hk0 hk1 hk2;go_wp2_with fail;rw[←hw3];refine(zof2_calls _ n _ (hZ.out.ext ((e1.trans e2).trans e3)) hsn).mono ?_;rintro e w4 ⟨vn,rfl,hvn,e4⟩;go_wp2_with fail;refine(lowest3z_calls _ _ n 1 _ hvn.cz (hone.ext e4) hp hsn hsd).mono ?_;rintro e w5 ⟨v5,rfl,h5,e5⟩;have hs2:=e2.size;have hs4:=e4.size;have hsE:=(((e1.trans e2).trans e3).trans e4).size;obtain⟨s',t',rfl,hn,hm⟩:=h5;obtain⟨ad5,cap5,rfl⟩:=hn.slice;obtain⟨ad6,cap6,rfl⟩:=hm.slice;have Hn5:=Lib.hid hn;have Hm5:=Lib.hid hm;clear hn hm hk0 hk1 hk2;have hb:=(((b2.ext e2).ext e3).ext e4).ext e5;have hc0:=hb.cell 0;have hc1:=hb.cell 1;have hc2:=hb.cell 2;have hf0:=hb.free 0;have hf1:=hb.free 1;have hf2:=hb.free 2;go_wp2;refine ret_box 2 66 (w.heap.size+1) 66 _ _ (by kernel_rfl) rfl (((hb.set 0 _).set 1 _).set 2 _) Tryz.underlying66 rfl (by kernel_rfl) rfl ?_;exact⟨_,rfl,⟨_,_,rfl,(Hn5.out.chg (Chg.trans (Chg.trans (Chg.setCell _ (w.heap.size+1) 0 _) (Chg.setCell _ (w.heap.size+1) 1 _)) (Chg.setCell _ (w.heap.size+1) 2 _)) (by omega)).mono (by omega),(Hm5.out.chg (Chg.trans (Chg.trans (Chg.setCell _ (w.heap.size+1) 0 _) (Chg.setCell _ (w.heap.size+1) 1 _)) (Chg.setCell _ (w.heap.size+1) 2 _)) (by omega)).mono (by omega)⟩,((((e1.trans e2).trans e3).trans e4).trans e5).step (Chg.trans (Chg.trans (Chg.setCell _ (w.heap.size+1) 0 _) (Chg.setCell _ (w.heap.size+1) 1 _)) (Chg.setCell _ (w.heap.size+1) 2 _)) (by omega)⟩
 ·have hz0:¬sz TK d0=0:=fun e=>by have:=hz.1 e;omega
  have hd1:d=d0:=by rw[hd,if_neg (by omega)]
  subst hd1;have hdN:=hvd.isC.isN TK_gt (by rw[LIM_eq];omega);clear hz hd;have hk2:=(b1.ext e2).cell 2;go_wp2_with fail;refine(zof2_calls _ n _ (hZ.out.ext (e1.trans e2)) hsn).mono ?_;rintro e w4 ⟨vn,rfl,hvn,e4⟩;go_wp2_with fail;refine(lowest3z_calls _ _ n d _ hvn.cz (hdN.ext e4) hp hsn hsd).mono ?_;rintro e w5 ⟨v5,rfl,h5,e5⟩;have hs2:=e2.size;have hs4:=e4.size;have hsE:=((e1.trans e2).trans e4).size;obtain⟨s',t',rfl,hn,hm⟩:=h5;obtain⟨ad5,cap5,rfl⟩:=hn.slice;obtain⟨ad6,cap6,rfl⟩:=hm.slice;have Hn5:=Lib.hid hn;have Hm5:=Lib.hid hm;clear hn hm hk0 hk1 hk2;have hb:=((b2.ext e2).ext e4).ext e5;have hc0:=hb.cell 0;have hc1:=hb.cell 1;have hc2:=hb.cell 2;have hf0:=hb.free 0;have hf1:=hb.free 1;have hf2:=hb.free 2;go_wp2;refine ret_box 2 66 (w.heap.size+1) 66 _ _ (by kernel_rfl) rfl (((hb.set 0 _).set 1 _).set 2 _) Tryz.underlying66 rfl (by kernel_rfl) rfl ?_;exact⟨_,rfl,⟨_,_,rfl,(Hn5.out.chg (Chg.trans (Chg.trans (Chg.setCell _ (w.heap.size+1) 0 _) (Chg.setCell _ (w.heap.size+1) 1 _)) (Chg.setCell _ (w.heap.size+1) 2 _)) (by omega)).mono (by omega),(Hm5.out.chg (Chg.trans (Chg.trans (Chg.setCell _ (w.heap.size+1) 0 _) (Chg.setCell _ (w.heap.size+1) 1 _)) (Chg.setCell _ (w.heap.size+1) 2 _)) (by omega)).mono (by omega)⟩,(((e1.trans e2).trans e4).trans e5).step (Chg.trans (Chg.trans (Chg.setCell _ (w.heap.size+1) 0 _) (Chg.setCell _ (w.heap.size+1) 1 _)) (Chg.setCell _ (w.heap.size+1) 2 _)) (by omega)⟩
end Go.Proofs.YthoibjnkhkjnjaaGreat
