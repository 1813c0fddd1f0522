/-
 rat's functions, walked (IV): quotients, whole numbers, rounding.
-/
import Derived.Test.YtbmnlaepfckmkaaGreatRacZ
import Derived.Test.YtbmnlaepfckmkaaGreatRaaZ
namespace Go.Proofs.YtbmnlaepfckmkaaGreat
set_option maxRecDepth 100000
set_option maxHeartbeats 1000000
open Go.RowKit
set_option linter.unusedVariables false
set_option linter.unusedSimpArgs false
theorem div_mkRat(n m:Int)(d e:Nat):mkRat n d / mkRat m e=Rat.divInt (n*e) (m*d):=by
 rw[Rat.div_def,←Rat.divInt_ofNat n d,←Rat.divInt_ofNat m e,Rat.inv_divInt,Rat.divInt_mul_divInt,Int.mul_comm (d:Int) m]
def PA.tupZ{S:Nat}(x y:Int):PA S:=⟨fun u w=>∃v1 v2,u= .tuple #[v1,v2,.int .i64 0]∧FrZ S w v1 x∧FrZ S w v2 y,fun _ _ _ h hp=>(let ⟨v,v2,h1,h2,h3⟩:=hp;⟨v,v2,h1,h2.ext h,h3.ext h⟩),fun _ _ _ h hp=>(let ⟨v,v2,h1,h2,h3⟩:=hp;⟨v,v2,h1,h2.schg h,h3.schg h⟩)⟩
def PA.aggN{S:Nat}(n:Nat):PA S:=⟨fun u w=>∃t,u= .agg #[.bool false,t]∧IsN .u64 W w t n,fun _ _ _ h hp=>(let ⟨v,h1,h2⟩:=hp;⟨v,h1,h2.ext h⟩),fun _ _ _ h hp=>(let ⟨v,h1,h2⟩:=hp;⟨v,h1,h2.schg h⟩)⟩
theorem rofint_calls(v:Value)(z:Int)(w:World)(hv:IsZ w v z)(hsz:szZ z≤68719476736):
  Calls Tryz.prog 142 #[v] w fun e w'=>∃v',e= .returned v'∧FrQ w.heap.size w' v' (z:Rat)∧Ext w w':=by
 obtain⟨b,s,n,rfl,hs,hz⟩:=hv;have Hz:=Lib.hid hz
 go_enter Tryz.func142,Tryz.ntmps142
 obtain⟨w1,hw1,e1,b1,b2,s1⟩:=alloc2 w #[.bool b,s] #[.bool false,.slice none 0 0,.slice none 0 0] 39 41;have hc0:=b1.cell 0;have hc1:=b1.cell 1;rw[hw1]at hc0 hc1;go_wp2_with fail;rw[←hw1];clear hc0 hc1 hz;refine(make_calls _ s n _ (hs.ext e1)).mono ?_;rintro e w2 ⟨vz,rfl,hz,e2⟩;obtain⟨s',rfl,hn⟩:=hz;obtain⟨ad,cap,rfl⟩:=hn.slice;have Hn:=Lib.hid hn;clear hn;go_wp2_with fail;refine(one_calls _).mono ?_;rintro e w3 ⟨v1,rfl,h1,e3⟩;obtain⟨ad1,cap1,rfl⟩:=h1.slice;have H1:=Lib.hid h1;clear h1;have es2:=e2.size;have hb:=(b2.ext e2).ext e3;have hc0:=hb.cell 0;have hc1:=hb.cell 1;have hc2:=hb.cell 2;have hf0:=hb.free 0;have hf1:=hb.free 1;have hf2:=hb.free 2;go_wp2;refine ret_box 2 41 (w.heap.size+1) 41 _ _ (by kernel_rfl) rfl (((hb.set 0 _).set 1 _).set 2 _) Tryz.underlying41 rfl (by kernel_rfl) rfl ?_;rw[Hz.out]
 exact⟨_,rfl,⟨_,_,rfl,(((Hn.out.ext e3).chg (Chg.trans (Chg.trans (Chg.setCell _ (w.heap.size+1) 0 _) (Chg.setCell _ (w.heap.size+1) 1 _)) (Chg.setCell _ (w.heap.size+1) 2 _))
 (by omega)).mono (by omega)),((H1.out.chg (Chg.trans (Chg.trans (Chg.setCell _ (w.heap.size+1) 0 _) (Chg.setCell _ (w.heap.size+1) 1 _)) (Chg.setCell _ (w.heap.size+1) 2 _))
 (by omega)).mono (by omega))⟩,((e1.trans e2).trans e3).step (Chg.trans (Chg.trans (Chg.setCell _ (w.heap.size+1) 0 _) (Chg.setCell _ (w.heap.size+1) 1 _)) (Chg.setCell _ (w.heap.size+1) 2 _))
 (by omega)⟩
theorem rwhole_calls(x:Int)(w:World)(h0: -9223372036854775808≤x)(h1:x≤9223372036854775807):
  Calls Tryz.prog 83 #[.int .i64 x] w fun e w'=>∃v',e= .returned v'∧FrQ w.heap.size w' v' (x:Rat)∧Ext w w':=by
 have hx1:szZ x≤1:=szZ_small (by rw[W_eq];omega)
 go_enter Tryz.func83,Tryz.ntmps83
 go_wp2_with fail;obtain⟨w1,hw1,e1,b1,s1⟩:=alloc1 w #[.bool false,.slice none 0 0,.slice none 0 0] 41;rw[←hw1];refine(zof_calls x _ h0 h1).mono ?_;rintro e w2 ⟨v1,rfl,hv1,e2⟩;go_wp2_with fail;refine(rofint_calls _ x _ (hv1.isZ (by rw[LIM_eq];omega)) (by omega)).mono ?_;rintro e w4 ⟨v3,rfl,hq,e4⟩;obtain⟨s',t',rfl,hn,hm⟩:=hq;obtain⟨ad,cap,rfl⟩:=hn.slice;obtain⟨ad2,cap2,rfl⟩:=hm.slice;have Hn:=Lib.hid hn;have Hm:=Lib.hid hm;clear hn hm;have es2:=e2.size;have hb:=(b1.ext e2).ext e4;have hc0:=hb.cell 0;have hc1:=hb.cell 1;have hc2:=hb.cell 2;have hf0:=hb.free 0;have hf1:=hb.free 1;have hf2:=hb.free 2;go_wp2;refine ret_box 2 41 w.heap.size 41 _ _ (by kernel_rfl) rfl (((hb.set 0 _).set 1 _).set 2 _) Tryz.underlying41 rfl (by kernel_rfl) rfl ?_
 exact⟨_,rfl,⟨_,_,rfl,((Hn.out.chg (Chg.trans (Chg.trans (Chg.setCell _ w.heap.size 0 _) (Chg.setCell _ w.heap.size 1 _)) (Chg.setCell _ w.heap.size 2 _))
 (by omega)).mono (by omega)),((Hm.out.chg (Chg.trans (Chg.trans (Chg.setCell _ w.heap.size 0 _) (Chg.setCell _ w.heap.size 1 _)) (Chg.setCell _ w.heap.size 2 _))
 (by omega)).mono (by omega))⟩,((e1.trans e2).trans e4).step (Chg.trans (Chg.trans (Chg.setCell _ w.heap.size 0 _) (Chg.setCell _ w.heap.size 1 _)) (Chg.setCell _ w.heap.size 2 _))
 (by omega)⟩
theorem IsN.slice{k:IntKind}{B n:Nat}{w:World}{v:Value}(h:IsN k B w v n):∃ad l cap,v= .slice ad l cap:=by
 obtain⟨xs,⟨ad,cap,rfl, -⟩, -⟩:=h;exact⟨ad,_,cap,rfl⟩
theorem rfloor_calls(v:Value)(x:Rat)(k:Nat)(w:World)(hv:IsR w v x k)(hk:k≤34359738300):
  Calls Tryz.prog 143 #[v] w fun e w'=>∃v',e= .returned v'∧FrZ w.heap.size w' v' x.floor∧szZ x.floor≤k+1∧Ext w w':=by
 obtain⟨nx,dx,hqx,rfl,knx,kdx⟩:=hv;have hpx:=hqx.pos;have Qx:=Lib.hid hqx;obtain⟨bx,sx,tx,mx,d0x,rfl,hsx,hnx,htx,hdx⟩:=hqx;have Zx:=Lib.hid (show IsZ w (.agg #[.bool bx,sx]) nx from⟨_,_,_,rfl,hsx,hnx⟩);clear hnx hdx;have Hfl:=Lib.hid (mkRat_floor nx dx hpx)
 have Hsz:=Lib.hid (show szZ (nx / (dx:Int))≤k+1 by
  have h:(nx / (dx:Int)).natAbs≤nx.natAbs:=Int.natAbs_ediv_le_natAbs _ _
  exact Nat.le_trans (sz_mono h) (by unfold szZ at*;omega))
 go_enter Tryz.func143,Tryz.ntmps143
 go_wp2_with fail;obtain⟨w1,hw1,e1,b1,b2,s1⟩:=alloc2 w #[.bool bx,sx,tx] #[.bool false,.slice none 0 0] 41 39;rw[←hw1];clear hw1;refine wp_region_als [⟨10,39,2,#[.bool false,.slice none 0 0]⟩,⟨11,39,2,#[.bool false,.slice none 0 0]⟩] [⟨12,⟨10,39,2,#[.bool false,.slice none 0 0]⟩,PA.frZ (nx / (dx:Int))⟩,⟨13,⟨11,39,2,#[.bool false,.slice none 0 0]⟩,PA.frZ (nx % (dx:Int))⟩] [PA.val (.pointer (some ⟨w.heap.size,0,none⟩)),PA.val (.agg #[.bool bx,sx]),PA.val (.agg #[.bool bx,sx,tx]),PA.isN dx,PA.aggN dx,PA.tupZ (nx / (dx:Int)) (nx % (dx:Int)),PA.tupZ (nx / (dx:Int)) (nx % (dx:Int)),PA.frZ (nx / (dx:Int)),PA.frZ (nx % (dx:Int)),PA.val (.int .i64 0),PA.any,PA.any,PA.any,PA.any,PA.val (.int .i64 0)]
  (by kernel_rfl) (by kernel_rfl) (fun f=>(by simp only[fillR,fillL,List.setIfInBounds_toArray,List.set_cons_succ,List.set_cons_zero,Nat.reduceAdd];rfl)) ?_ ?_ ?_ ?_ ?_
 ·intro x hx;simp only[List.mem_cons,List.not_mem_nil,or_false]at hx;rcases hx with rfl |rfl
  ·exact⟨rfl,rfl,by decide,by decide,rfl,noInt2 _ _ _ _⟩
  ·exact⟨rfl,rfl,by decide,by decide,rfl,noInt2 _ _ _ _⟩
 ·intro x hx;simp only[List.mem_cons,List.not_mem_nil,or_false]at hx;rcases hx with rfl |rfl<;>exact ⟨rfl,rfl,by simp⟩
 ·intro x hx y hy h;simp only[List.mem_cons,List.not_mem_nil,or_false]at hx hy;rcases hx with rfl |rfl<;>rcases hy with rfl |rfl
  ·exact absurd rfl h
  ·show 10≠11;decide
  ·show 11≠10;decide
  ·exact absurd rfl h
 ·refine⟨?_,?_,?_,?_,?_,?_,?_,?_,?_,?_,?_,?_,?_,?_,?_,trivial⟩
  ·intro f w2 hE hp;have hS:=hE.size;change OpGoal _ _ _ f w2 Ext _;simp only[OpGoal];go_simp;exact⟨_,rfl,Ext.refl _,rfl⟩
  ·intro f w2 hE hp;have hS:=hE.size
   have q7:f 0= .pointer (some ⟨w.heap.size,0,none⟩):=tellA hp 0 0 rfl rfl rfl
   have hbx:=b1.ext hE;have hcell0:=hbx.cell 0;have hcell1:=hbx.cell 1;have hcell2:=hbx.cell 2;change OpGoal _ _ _ f w2 Ext _;simp only[OpGoal];go_simp;exact⟨_,rfl,Ext.refl _,rfl⟩
  ·intro f w2 hE hp;have hS:=hE.size;change OpGoal _ _ _ f w2 Ext _;exact og_load (P:=Tryz.prog) _ _ w.heap.size _ _ _ rfl rfl rfl (b1.ext hE) Tryz.underlying41 rfl (by kernel_rfl) rfl
  ·intro f w2 hE hp;have hS:=hE.size
   have q9:f 2= .agg #[.bool bx,sx,tx]:=tellA hp 0 2 rfl rfl rfl
   change OpGoal _ _ _ f w2 Ext _;refine oC #[f 2] Tryz.func177 rfl rfl ?_;rw[q9];refine(under_calls _ nx dx _ (Qx.out.ext (e1.trans hE))).mono ?_;rintro e w' ⟨v',rfl,h1,h2⟩;exact⟨v',rfl,h2,h1⟩
  ·intro f w2 hE hp;have hS:=hE.size;have q10:=tellA hp 0 3 rfl rfl rfl;change OpGoal _ _ _ f w2 Ext _;obtain⟨ad,n',cap,hv⟩:=IsN.slice q10;simp only[OpGoal];go_simp;exact⟨_,rfl,Ext.refl _,_,rfl,hv▸q10⟩
  ·intro f w2 hE hp;have hS:=hE.size
   have q8:f 1= .agg #[.bool bx,sx]:=tellA hp 0 1 rfl rfl rfl
   have q11:=tellA hp 1 4 rfl rfl rfl;change OpGoal _ _ _ f w2 Ext _;refine oC #[f 1,f 4] Tryz.func187 rfl rfl ?_;rw[q8];obtain⟨t',hv,ht'⟩:=q11;rw[hv];refine(zdivfloor_calls _ t' nx dx _ (Zx.out.ext (e1.trans hE)) ht' hpx (by omega) (by omega)).mono ?_;rintro e w' ⟨v1,v2,rfl,h1,h3,h2⟩;exact⟨_,rfl,h2,v1,v2,rfl,h1.mono hS,h3.mono hS⟩
  ·intro f w2 hE hp;have hS:=hE.size;have q12:=tellA hp 0 5 rfl rfl rfl;change OpGoal _ _ _ f w2 Ext _;exact⟨_,rfl,Ext.refl _,q12⟩
  ·intro f w2 hE hp;have hS:=hE.size;have q6:=tellA hp 0 6 rfl rfl rfl;change OpGoal _ _ _ f w2 Ext _;obtain⟨v1,v2,hv,h1,h3⟩:=q6;simp only[OpGoal];go_simp;exact⟨_,rfl,Ext.refl _,h1⟩
  ·intro f w2 hE hp;have hS:=hE.size;have q6:=tellA hp 0 6 rfl rfl rfl;change OpGoal _ _ _ f w2 Ext _;obtain⟨v1,v2,hv,h1,h3⟩:=q6;simp only[OpGoal];go_simp;exact⟨_,rfl,Ext.refl _,h3⟩
  ·intro f w2 hE hp;have hS:=hE.size;have q6:=tellA hp 0 6 rfl rfl rfl;obtain⟨v1,v2,hv,h1,h3⟩:=q6;simp only[OpGoal];go_simp;exact⟨_,rfl,Ext.refl _,rfl⟩
  ·intro f w2 hE hp;have hS:=hE.size;change OpGoal _ _ _ f w2 (fun a b=>b=a.alloc _) _;exact og_alloc (P:=Tryz.prog) _ _ (.agg #[.bool false,.slice none 0 0]) rfl rfl (by kernel_rfl) rfl
  ·intro f w2 hE hp;have hS:=hE.size;change OpGoal _ _ _ f w2 (fun a b=>b=a.alloc _) _;exact og_alloc (P:=Tryz.prog) _ _ (.agg #[.bool false,.slice none 0 0]) rfl rfl (by kernel_rfl) rfl
  ·intro f w2 hE hp;have hS:=hE.size;have q13:=tellA hp 1 7 rfl rfl rfl;intro g old hfa hSg hbx hsz hno;change OpGoal _ _ _ f w2 (Chg g) _;obtain⟨cells,hv,hcs,hc1,hcn⟩:=FrZ.parts q13;exact og_storeA (P:=Tryz.prog) (PA.frZ (nx / (dx:Int))) 2 _ _ _ g _ old cells rfl rfl hfa hv hbx (by rw[hcs];kernel_rfl) hsz hcs hc1 hSg (show 39≠173 by decide) (show 39≠3 by decide) hno hcn (hv▸q13)
  ·intro f w2 hE hp;have hS:=hE.size;have q14:=tellA hp 1 8 rfl rfl rfl;intro g old hfa hSg hbx hsz hno;change OpGoal _ _ _ f w2 (Chg g) _;obtain⟨cells,hv,hcs,hc1,hcn⟩:=FrZ.parts q14;exact og_storeA (P:=Tryz.prog) (PA.frZ (nx % (dx:Int))) 2 _ _ _ g _ old cells rfl rfl hfa hv hbx (by rw[hcs];kernel_rfl) hsz hcs hc1 hSg (show 39≠173 by decide) (show 39≠3 by decide) hno hcn (hv▸q14)
  ·intro f w2 hE hp;have hS:=hE.size
   have q15:f 9= .int .i64 0:=tellA hp 0 9 rfl rfl rfl
   change OpGoal _ _ _ f w2 Ext _;simp only[OpGoal];go_simp;exact⟨_,rfl,Ext.refl _,rfl⟩
 ·intro f w2 hE hp hal;obtain⟨ga3,ca3,fa3,la3,ba3,na3,pa3⟩:=hal ⟨10,39,2,#[.bool false,.slice none 0 0]⟩ (by simp) (by decide)
  dsimp only at fa3 la3 ba3 na3
  have za3:=pa3 ⟨12,⟨10,39,2,#[.bool false,.slice none 0 0]⟩,PA.frZ (nx / (dx:Int))⟩ (by simp) (by show 12<15;decide) rfl rfl;clear pa3;obtain⟨ga4,ca4,fa4,la4,ba4,na4,pa4⟩:=hal ⟨11,39,2,#[.bool false,.slice none 0 0]⟩ (by simp) (by decide)
  dsimp only at fa4 la4 ba4 na4
  have za4:=pa4 ⟨13,⟨11,39,2,#[.bool false,.slice none 0 0]⟩,PA.frZ (nx % (dx:Int))⟩ (by simp) (by show 13<15;decide) rfl rfl;clear pa4;clear hp hal;obtain⟨s3,hv3,hn3⟩:=za3
  cases hv3
  obtain⟨ad,cap,rfl⟩:=hn3.slice;have Hn:=Lib.hid hn3;clear hn3 za4;have hq0:=ba3.cell 0;have hq1:=ba3.cell 1;have hb:=b2.ext hE;have hc0:=hb.cell 0;have hc1:=hb.cell 1;have hf0:=hb.free 0;have hf1:=hb.free 1;go_wp2;refine ret_box 2 39 (w.heap.size+1) 39 _ _ (by kernel_rfl) rfl ((hb.set 0 _).set 1 _) Tryz.underlying39 rfl (by kernel_rfl) rfl ?_;rw[Hfl.out]
  exact⟨_,rfl,⟨_,rfl,((Hn.out.chg (Chg.trans (Chg.setCell _ (w.heap.size+1) 0 _) (Chg.setCell _ (w.heap.size+1) 1 _))
 (by omega)).mono (by omega))⟩,Hsz.out,(e1.trans hE).step (Chg.trans (Chg.setCell _ (w.heap.size+1) 0 _) (Chg.setCell _ (w.heap.size+1) 1 _))
 (by omega)⟩
theorem szQ_int(z:Int):szQ (z:Rat)≤max (szZ z) 1:=by
 unfold szQ;rw[Rat.num_intCast,Rat.den_intCast];exact Nat.le_refl _
theorem rfrac_calls(v:Value)(x:Rat)(k:Nat)(w:World)(hv:IsR w v x k)(hk:k≤17179869180):
  Calls Tryz.prog 169 #[v] w fun e w'=>∃v',e= .returned v'∧FrQ w.heap.size w' v' (x - (x.floor:Rat))∧szQ (x - (x.floor:Rat))≤2*k+2∧Ext w w':=by
 have Hv:=Lib.hid hv;have hsx:=hv.sz
 have hfs:szZ x.floor≤k+1:=by
  obtain⟨n,d,h1,rfl,h3,h4⟩:=hv;rw[mkRat_floor n d h1.pos];have h:(n / (d:Int)).natAbs≤n.natAbs:=Int.natAbs_ediv_le_natAbs _ _;exact Nat.le_trans (sz_mono h) (by unfold szZ at*;omega)
 have hk0:1≤k:=by
  obtain⟨n,d,h1,rfl,h3,h4⟩:=hv
  have:=sz_zero (n:=d)
  have:=h1.pos
  omega
 obtain⟨nx,dx,⟨bx,sx,tx,mx,d0x,rfl, -⟩, -⟩:=hv;have hsi:=szQ_int x.floor
 go_enter Tryz.func169,Tryz.ntmps169
 go_wp2_with fail;obtain⟨w1,hw1,e1,b1,b2,s1⟩:=alloc2 w #[.bool bx,sx,tx] #[.bool false,.slice none 0 0,.slice none 0 0] 41 41;rw[←hw1];clear hw1;refine wpP [⟨5,(w.heap.size+1),41,PP.frQS (x - (x.floor:Rat)) (2*k+2)⟩] [PP.val (.agg #[.bool bx,sx,tx]),PP.val (.agg #[.bool bx,sx,tx]),PP.frZ x.floor,PP.frQ (x.floor:Rat),PP.frQS (x - (x.floor:Rat)) (2*k+2),PP.any] [] [5,4,3,2,1,0] ?_ ?_ ?_ ?_ ?_
 ·intro x hx;simp only[List.mem_singleton]at hx;subst hx;exact⟨by show(w.heap.size+1)<w1.heap.size;omega,rfl⟩
 ·intro x hx;simp only[List.mem_singleton]at hx;subst hx;rfl
 ·intro x hx y hy h;simp only[List.mem_singleton]at hx hy;subst hx hy;exact absurd rfl h
 ·refine⟨?_,?_,?_,?_,?_,?_,trivial⟩
  ·intro f w2 hG hp hl;have hE:Ext w1 w2:=hG;change OpGoal _ _ _ f w2 Ext _;exact og_load (P:=Tryz.prog) _ _ w.heap.size _ _ _ rfl rfl rfl (b1.ext hE) Tryz.underlying41 rfl (by kernel_rfl) rfl
  ·intro f w2 hG hp hl;have hE:Ext w1 w2:=hG;change OpGoal _ _ _ f w2 Ext _;exact og_load (P:=Tryz.prog) _ _ w.heap.size _ _ _ rfl rfl rfl (b1.ext hE) Tryz.underlying41 rfl (by kernel_rfl) rfl
  ·intro f w2 hG hp hl;have hE:Ext w1 w2:=hG;have hS:=hE.size;have q4:=tE hp 0 1 rfl rfl rfl;change OpGoal _ _ _ f w2 Ext _;refine oC #[f 1] Tryz.func143 rfl rfl ?_;rw[q4];refine(rfloor_calls _ x k _ (Hv.out.ext (e1.trans hE)) (by omega)).mono ?_;rintro e w' ⟨v',rfl,h1,_,h2⟩;exact⟨v',rfl,h2,h1.mono hS⟩
  ·intro f w2 hG hp hl;have hE:Ext w1 w2:=hG;have hS:=hE.size;have q5:=tellV hp 0 2 rfl rfl (fun _=>hE);change OpGoal _ _ _ f w2 Ext _;refine oC #[f 2] Tryz.func142 rfl rfl ?_;refine(rofint_calls _ x.floor _ (q5.isZ (by rw[LIM_eq];omega)) (by omega)).mono ?_;rintro e w' ⟨v',rfl,h1,h2⟩;exact⟨v',rfl,h2,h1.mono hS⟩
  ·intro f w2 hG hp hl;have hE:Ext w1 w2:=hG;have hS:=hE.size;have q3:=tE hp 0 0 rfl rfl rfl;have q6:=tellV hp 1 3 rfl rfl (fun _=>hE);change OpGoal _ _ _ f w2 Ext _;refine oC #[f 0,f 3] Tryz.func193 rfl rfl ?_;rw[q3];refine(rsub_calls _ _ x (x.floor:Rat) k (k+1) _ (Hv.out.ext (e1.trans hE)) (q6.isR (by omega) (by rw[LIM_eq];omega)) (by omega)).mono ?_;rintro e w' ⟨v',rfl,h1,h3,h2⟩;exact⟨v',rfl,h2,h1.mono hS,by omega⟩
  ·intro f w2 hG hp hl;have hE:Ext w1 w2:=hG;have hS:=hE.size;have q7:=tellV hp 0 4 rfl rfl (fun _=>hE);intro hg0;change OpGoal _ _ _ f w2 (Chg _) _;obtain⟨⟨s',t',hv,hn,hm⟩,hsz⟩:=q7;exact og_store (P:=Tryz.prog) _ _ _ (w.heap.size+1) _ _ _ (PP.frQS _ _:PP _).p rfl rfl rfl hv (show Bx 41 w2 _ _ from hg0.trans b2) (by kernel_rfl) rfl (all3 rfl hn.oneCell hm.oneCell) (fun w' h=>⟨⟨s',t',rfl,hn.chg h (by omega),hm.chg h (by omega)⟩,hsz⟩)
 ·intro f w2 hG hp;obtain⟨cs0,hbx0,hz0⟩:∃cs,Bx 41 w2 (w.heap.size+1) cs∧(PP.frQS (x - (x.floor:Rat)) (2*k+2):PP w1.heap.size).p (.agg cs) w2:=endS hp 5 (by decide);clear hp;have hzs:=hz0.2
  replace hz0:=hz0.1
  have hz1:=hz0.mono (show w.heap.size≤_ by omega);obtain⟨s',t',hvv,hnn,hmm⟩:=hz0
  cases hvv
  go_wp2;refine ret_box 2 41 (w.heap.size+1) 41 _ _ (by kernel_rfl) rfl hbx0 Tryz.underlying41 rfl (by kernel_rfl) rfl ?_;exact⟨_,rfl,hz1,hzs,e1.stepS hG (by simp)⟩
theorem riswhole_calls(v:Value)(x:Rat)(k:Nat)(w:World)(hv:IsR w v x k)(hk:k≤17179869180):
  Calls Tryz.prog 98 #[v] w fun e w'=>e= .returned (.bool (decide (x=(x.floor:Rat))))∧Ext w w':=by
 have Hv:=Lib.hid hv;obtain⟨nx,dx,⟨bx,sx,tx,mx,d0x,rfl, -⟩, -⟩:=hv;have hns:=num_sign x (x.floor:Rat)
 have hdec:decide ((x - (x.floor:Rat)).num.sign=0)=decide (x=(x.floor:Rat)):=by
  rw[hns];unfold cmpR
  split
  ·rename_i h;rw[decide_eq_false (Rat.ne_of_lt h)];rfl
  ·split
   ·rename_i h1 h2;exact(decide_eq_true h2).symm
   ·rename_i h1 h2;rw[decide_eq_false h2];rfl
 have Hdec:=Lib.hid hdec;clear hns hdec
 go_enter Tryz.func98,Tryz.ntmps98
 obtain⟨w1,hw1,e1,b1,s1⟩:=alloc1 w #[.bool bx,sx,tx] 41;have hc0:=b1.cell 0;have hc1:=b1.cell 1;have hc2:=b1.cell 2;rw[hw1]at hc0 hc1 hc2;go_wp2_with fail;rw[←hw1];clear hc0 hc1 hc2;refine(rfrac_calls _ x k _ (Hv.out.ext e1) hk).mono ?_;rintro e w2 ⟨v2,rfl,h2,hs2,e2⟩;go_wp2_with fail;refine(rsign_calls _ _ _ _ (h2.isR hs2 (by rw[LIM_eq];omega))).mono ?_;rintro e w3 ⟨rfl,e3⟩;go_wp2;go_ret;exact⟨by rw[←Hdec.out];rfl,(e1.trans e2).trans e3⟩
end Go.Proofs.YtbmnlaepfckmkaaGreat
