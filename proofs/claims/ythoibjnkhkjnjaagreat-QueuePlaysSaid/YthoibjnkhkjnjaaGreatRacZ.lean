/-
 rat's functions, walked (III): comparison, sums, differences, products, quotients.
-/
import Derived.Test.YthoibjnkhkjnjaaGreatRabZ
namespace Go.Proofs.YthoibjnkhkjnjaaGreat
set_option maxRecDepth 100000
set_option maxHeartbeats 1000000
open Go.RowKit
set_option linter.unusedVariables false
set_option linter.unusedSimpArgs false
def cmpR(x y:Rat):Int:=if x<y then -1 else if x=y then 0 else 1
theorem sub_mkRat(n m:Int)(d e:Nat)(hd:0<d)(he:0<e):mkRat n d - mkRat m e=mkRat (n*e - m*d) (d*e):=by
 rw[Rat.sub_eq_add_neg,Rat.neg_mkRat,Rat.mkRat_add_mkRat _ _ (by omega) (by omega),Int.sub_eq_add_neg,Int.neg_mul]
theorem num_sign(x y:Rat):(x - y).num.sign=cmpR x y:=by
 unfold cmpR
 have h1:(x - y).num<0↔x<y:=by
  have e:(x - y).num= -(y - x).num:=by rw[←Rat.neg_sub,Rat.neg_num]
  rw[Rat.lt_iff_sub_pos,e,Rat.lt_iff_le_and_ne,←Rat.num_nonneg];have h0:= @Rat.num_eq_zero (y - x)
  constructor
  ·intro h;exact⟨by omega,fun h1=>by have:=h0.2 h1.symm;omega⟩
  ·rintro⟨h1,h2⟩
   have:(y - x).num≠0:=fun h=>h2 (h0.1 h).symm
   omega
 have h2:(x - y).num=0↔x=y:=by
  rw[Rat.num_eq_zero]
  constructor
  ·intro h;have:=congrArg (· +y) h;simpa[Rat.sub_add_cancel,Rat.zero_add]using this
  ·rintro rfl;exact Rat.sub_self
 have:=sign_cases (x - y).num
 split
 ·rename_i h;have:=h1.2 h;omega
 ·split
  ·rename_i h;have:=h2.2 h;omega
  ·rename_i h3 h4
   have a1:=mt h1.1 h3;have a2:=mt h2.1 h4
   omega
theorem cmp_mkRat(n m:Int)(d e:Nat)(hd:0<d)(he:0<e):(n*e - m*d).sign=cmpR (mkRat n d) (mkRat m e):=by
 rw[←num_sign,sub_mkRat n m d e hd he,mkRat_sign _ _ (Nat.mul_pos hd he)]
theorem rcmp_calls(v u:Value)(x y:Rat)(k l:Nat)(w:World)(hv:IsR w v x k)(hu:IsR w u y l)(hkl:k+l≤68719476736):
  Calls Tryz.prog 30 #[v,u] w fun e w'=>e= .returned (.int .i64 (cmpR x y))∧Ext w w':=by
 obtain⟨nx,dx,hqx,rfl,knx,kdx⟩:=hv;have hpx:=hqx.pos;have Qx:=Lib.hid hqx;obtain⟨bx,sx,tx,mx,d0x,rfl,hsx,hnx,htx,hdx⟩:=hqx;have Zx:=Lib.hid (show IsZ w (.agg #[.bool bx,sx]) nx from⟨_,_,_,rfl,hsx,hnx⟩);clear hnx hdx;obtain⟨ny,dy,hqy,rfl,kny,kdy⟩:=hu;have hpy:=hqy.pos;have Qy:=Lib.hid hqy;obtain⟨by_,sy,ty,my,d0y,rfl,hsy,hny,hty,hdy⟩:=hqy;have Zy:=Lib.hid (show IsZ w (.agg #[.bool by_,sy]) ny from⟨_,_,_,rfl,hsy,hny⟩);clear hny hdy;have sxy:=szZ_mul nx dy;have syx:=szZ_mul ny dx
 have s1':szZ (dx:Int)=sz W dx:=rfl
 have s2':szZ (dy:Int)=sz W dy:=rfl
 go_enter Tryz.func30,Tryz.ntmps30
 go_wp2_with fail;obtain⟨w1,hw1,e1,b1,b2,s1⟩:=alloc2 w #[.bool bx,sx,tx] #[.bool by_,sy,ty] 36 36;rw[←hw1];clear hw1;refine wpQ [PP.val (.agg #[.bool bx,sx,tx]),PP.val (.agg #[.bool by_,sy,ty]),PP.isN .u64 W dy,PP.frZ (nx*dy),PP.val (.agg #[.bool by_,sy,ty]),PP.val (.agg #[.bool bx,sx,tx]),PP.isN .u64 W dx,PP.frZ (ny*dx),PP.val (.int .i64 (nx*dy - ny*dx).sign),PP.val (.int .i64 (nx*dy - ny*dx).sign)] [] [0,1,2,3,4,5,6,7,8,9] ?_ ?_
 ·refine⟨?_,?_,?_,?_,?_,?_,?_,?_,?_,?_,trivial⟩
  ·intro f w2 hG hp hl;have hE:Ext w1 w2:=hG;change OpGoal _ _ _ f w2 Ext _;exact og_load (P:=Tryz.prog) _ _ w.heap.size _ _ _ rfl rfl rfl (b1.ext hE) Tryz.underlying36 rfl (by kernel_rfl) rfl
  ·intro f w2 hG hp hl;have hE:Ext w1 w2:=hG;change OpGoal _ _ _ f w2 Ext _;exact og_load (P:=Tryz.prog) _ _ (w.heap.size+1) _ _ _ rfl rfl rfl (b2.ext hE) Tryz.underlying36 rfl (by kernel_rfl) rfl
  ·intro f w2 hG hp hl;have hE:Ext w1 w2:=hG;have q6:=tE hp 0 1 rfl rfl rfl;change OpGoal _ _ _ f w2 Ext _;refine oC #[f 1] Tryz.func39 rfl rfl ?_;rw[q6];refine(under_calls _ ny dy _ (Qy.out.ext (e1.trans hE))).mono ?_;rintro e w' ⟨v',rfl,h1,h2⟩;exact⟨v',rfl,h2,h1⟩
  ·intro f w2 hG hp hl;have hE:Ext w1 w2:=hG;have hS:=hE.size;have q5:=tE hp 0 0 rfl rfl rfl;have q7:=tellV hp 1 2 rfl rfl (fun _=>hE);change OpGoal _ _ _ f w2 Ext _;refine oC #[f 0,f 2] Tryz.func49 rfl rfl ?_;rw[q5];refine(over_calls _ _ nx dx dy _ (Qx.out.ext (e1.trans hE)) q7 (by omega)).mono ?_;rintro e w' ⟨v',rfl,h1,h2⟩;exact⟨v',rfl,h2,h1.mono hS⟩
  ·intro f w2 hG hp hl;have hE:Ext w1 w2:=hG;change OpGoal _ _ _ f w2 Ext _;exact og_load (P:=Tryz.prog) _ _ (w.heap.size+1) _ _ _ rfl rfl rfl (b2.ext hE) Tryz.underlying36 rfl (by kernel_rfl) rfl
  ·intro f w2 hG hp hl;have hE:Ext w1 w2:=hG;change OpGoal _ _ _ f w2 Ext _;exact og_load (P:=Tryz.prog) _ _ w.heap.size _ _ _ rfl rfl rfl (b1.ext hE) Tryz.underlying36 rfl (by kernel_rfl) rfl
  ·intro f w2 hG hp hl;have hE:Ext w1 w2:=hG;have q10:=tE hp 0 5 rfl rfl rfl;change OpGoal _ _ _ f w2 Ext _;refine oC #[f 5] Tryz.func39 rfl rfl ?_;rw[q10];refine(under_calls _ nx dx _ (Qx.out.ext (e1.trans hE))).mono ?_;rintro e w' ⟨v',rfl,h1,h2⟩;exact⟨v',rfl,h2,h1⟩
  ·intro f w2 hG hp hl;have hE:Ext w1 w2:=hG;have hS:=hE.size;have q9:=tE hp 0 4 rfl rfl rfl;have q11:=tellV hp 1 6 rfl rfl (fun _=>hE);change OpGoal _ _ _ f w2 Ext _;refine oC #[f 4,f 6] Tryz.func49 rfl rfl ?_;rw[q9];refine(over_calls _ _ ny dy dx _ (Qy.out.ext (e1.trans hE)) q11 (by omega)).mono ?_;rintro e w' ⟨v',rfl,h1,h2⟩;exact⟨v',rfl,h2,h1.mono hS⟩
  ·intro f w2 hG hp hl;have hE:Ext w1 w2:=hG;have hS:=hE.size;have q8:=tellV hp 0 3 rfl rfl (fun _=>hE);have q12:=tellV hp 1 7 rfl rfl (fun _=>hE);change OpGoal _ _ _ f w2 Ext _;refine oC #[f 3,f 7] Tryz.func48 rfl rfl ?_;refine(zcmp_calls _ _ (nx*dy) (ny*dx) _ (q8.isZ (by rw[LIM_eq];omega)) (q12.isZ (by rw[LIM_eq];omega))).mono ?_;rintro e w' ⟨rfl,h2⟩;exact⟨_,rfl,h2,rfl⟩
  ·intro f w2 hG hp hl;have q13:=tE hp 0 8 rfl rfl rfl;exact⟨_,rfl,Ext.refl _,q13⟩
 ·intro f w2 hG hp;have hE:Ext w1 w2:=ChgS.nil hG
  have q4:f 9= .int .i64 (nx*dy - ny*dx).sign:=endV hp 9 (by decide) rfl (fun h=>by cases h)
  clear hp;go_wp2;go_ret;exact⟨by rw[q4,cmp_mkRat _ _ _ _ hpx hpy];rfl,e1.trans hE⟩
end Go.Proofs.YthoibjnkhkjnjaaGreat
