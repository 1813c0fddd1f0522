/-
 The document's fractions, walked (III): sums, products, quotients, comparison, rounding.
-/
import Derived.Test.YthoibjnkhkjnjaaGreatRtdZ
namespace Go.Proofs.YthoibjnkhkjnjaaGreat
set_option maxRecDepth 100000
set_option maxHeartbeats 1000000
open Go.RowKit
set_option linter.unusedVariables false
set_option linter.unusedSimpArgs false
theorem rqcmp3_calls(v u:Value)(x y:Rat)(k l:Nat)(w:World)(hv:CQ w v x)(hu:CQ w u y)(hx:szD x≤k)(hy:szD y≤l)(hkl:k+l≤34359738000):
  Calls Tryz.prog 32 #[v,u] w fun e w'=>e= .returned (.int .i64 (cmpR x y))∧Ext w w':=by
 obtain⟨sx,tx,rfl,sx',tx'⟩:=hv;obtain⟨sy,ty,rfl,sy',ty'⟩:=hu;have hkx:=szD_le hx;have hky:=szD_le hy;have zx:CZ w (.agg #[.bool (decide (x.num<0)),sx]) x.num:=⟨sx,rfl,sx'⟩;have zy:CZ w (.agg #[.bool (decide (y.num<0)),sy]) y.num:=⟨sy,rfl,sy'⟩;have sxy:=szT_mul x.num y.den;have syx:=szT_mul y.num x.den
 have s1':szT (x.den:Int)=sz TK x.den:=rfl
 have s2':szT (y.den:Int)=sz TK y.den:=rfl
 have hq:=cmp_mkRat x.num y.num x.den y.den x.den_pos y.den_pos;rw[Rat.mkRat_self,Rat.mkRat_self]at hq;have Hq:=Lib.hid hq;clear hq
 go_enter Tryz.func32,Tryz.ntmps32
 go_wp2_with fail;obtain⟨w1,hw1,e1,b1,b2,s1⟩:=alloc2 w #[.bool (decide (x.num<0)),sx,tx] #[.bool (decide (y.num<0)),sy,ty] 66 66;rw[←hw1];clear hw1;refine wpQ [PP.val (.pointer (some ⟨w.heap.size,0,none⟩)),PP.val (.agg #[.bool (decide (x.num<0)),sx]),PP.val (.pointer (some ⟨(w.heap.size+1),2,none⟩)),PP.val (ty),PP.frZd (x.num*y.den),PP.val (.pointer (some ⟨(w.heap.size+1),0,none⟩)),PP.val (.agg #[.bool (decide (y.num<0)),sy]),PP.val (.pointer (some ⟨w.heap.size,2,none⟩)),PP.val (tx),PP.frZd (y.num*x.den),PP.val (.int .i64 (x.num*y.den - y.num*x.den).sign),PP.val (.int .i64 (x.num*y.den - y.num*x.den).sign)] [] [0,1,2,3,4,5,6,7,8,9,10,11] ?_ ?_
 ·refine⟨?_,?_,?_,?_,?_,?_,?_,?_,?_,?_,?_,?_,trivial⟩
  ·intro f w2 hG hp hl;simp only[OpGoal];go_simp;exact⟨_,rfl,Ext.refl _,rfl⟩
  ·intro f w2 hG hp hl;have hE:Ext w1 w2:=hG;have q5:=tE hp 0 0 rfl rfl rfl;have hbx:=b1.ext hE;have hcell0:=hbx.cell 0;have hcell1:=hbx.cell 1;have hcell2:=hbx.cell 2;simp only[OpGoal];go_simp;exact⟨_,rfl,Ext.refl _,rfl⟩
  ·intro f w2 hG hp hl;simp only[OpGoal];go_simp;exact⟨_,rfl,Ext.refl _,rfl⟩
  ·intro f w2 hG hp hl;have hE:Ext w1 w2:=hG;have q7:=tE hp 0 2 rfl rfl rfl;have hcell:=(b2.ext hE).cell 2;simp only[OpGoal];go_simp;exact⟨_,rfl,Ext.refl _,rfl⟩
  ·intro f w2 hG hp hl;have hE:Ext w1 w2:=hG;have hS:=hE.size;have q6:=tE hp 0 1 rfl rfl rfl;have q8:=tE hp 1 3 rfl rfl rfl;change OpGoal _ _ _ f w2 Ext _;refine oC #[f 1,f 3] Tryz.func53 rfl rfl ?_;rw[q6,q8];refine(times3_calls _ _ x.num y.den _ (zx.ext (e1.trans hE)) (ty'.ext (e1.trans hE)) (by omega) (by omega)).mono ?_;rintro e w' ⟨v',rfl,h1,h2⟩;exact⟨v',rfl,h2,h1.mono hS⟩
  ·intro f w2 hG hp hl;simp only[OpGoal];go_simp;exact⟨_,rfl,Ext.refl _,rfl⟩
  ·intro f w2 hG hp hl;have hE:Ext w1 w2:=hG;have q10:=tE hp 0 5 rfl rfl rfl;have hbx:=b2.ext hE;have hcell0:=hbx.cell 0;have hcell1:=hbx.cell 1;have hcell2:=hbx.cell 2;simp only[OpGoal];go_simp;exact⟨_,rfl,Ext.refl _,rfl⟩
  ·intro f w2 hG hp hl;simp only[OpGoal];go_simp;exact⟨_,rfl,Ext.refl _,rfl⟩
  ·intro f w2 hG hp hl;have hE:Ext w1 w2:=hG;have q12:=tE hp 0 7 rfl rfl rfl;have hcell:=(b1.ext hE).cell 2;simp only[OpGoal];go_simp;exact⟨_,rfl,Ext.refl _,rfl⟩
  ·intro f w2 hG hp hl;have hE:Ext w1 w2:=hG;have hS:=hE.size;have q11:=tE hp 0 6 rfl rfl rfl;have q13:=tE hp 1 8 rfl rfl rfl;change OpGoal _ _ _ f w2 Ext _;refine oC #[f 6,f 8] Tryz.func53 rfl rfl ?_;rw[q11,q13];refine(times3_calls _ _ y.num x.den _ (zy.ext (e1.trans hE)) (tx'.ext (e1.trans hE)) (by omega) (by omega)).mono ?_;rintro e w' ⟨v',rfl,h1,h2⟩;exact⟨v',rfl,h2,h1.mono hS⟩
  ·intro f w2 hG hp hl;have hE:Ext w1 w2:=hG;have hS:=hE.size;have q9:=tellV hp 0 4 rfl rfl (fun _=>hE);have q14:=tellV hp 1 9 rfl rfl (fun _=>hE);change OpGoal _ _ _ f w2 Ext _;refine oC #[f 4,f 9] Tryz.func52 rfl rfl ?_;refine(zcmp2_calls _ _ _ _ _ q9.cz q14.cz (by omega) (by omega)).mono ?_;rintro e w' ⟨rfl,h2⟩;exact⟨_,rfl,h2,rfl⟩
  ·intro f w2 hG hp hl;have q15:=tE hp 0 10 rfl rfl rfl;exact⟨_,rfl,Ext.refl _,q15⟩
 ·intro f w2 hG hp;have hE:Ext w1 w2:=ChgS.nil hG
  have q4:f 11= .int .i64 (x.num*y.den - y.num*x.den).sign:=endV hp 11 (by decide) rfl (fun h=>by cases h)
  try simp only[q4]
  clear hp;go_wp2;go_ret;exact⟨by rw[Hq.out];rfl,e1.trans hE⟩
end Go.Proofs.YthoibjnkhkjnjaaGreat
