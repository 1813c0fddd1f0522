/-
 rat's functions, walked (II): making, forms, signs, comparison, sums, differences, products, quotients.
-/
import Derived.Test.YthoibjnkhkjnjaaGreatRaaZ
namespace Go.Proofs.YthoibjnkhkjnjaaGreat
set_option maxRecDepth 100000
set_option maxHeartbeats 1000000
open Go.RowKit
set_option linter.unusedVariables false
set_option linter.unusedSimpArgs false
def zeroQ:Value:= .agg #[.bool false,.slice none 0 0,.slice none 0 0]
theorem form_calls(v:Value)(x:Rat)(k:Nat)(w:World)(hv:IsR w v x k)(hk:k≤68719476736):
  Calls Tryz.prog 24 #[v] w fun e w'=>∃v',e= .returned v'∧FrQ w.heap.size w' v' x∧Ext w w':=by
 obtain⟨nx,dx,hqx,rfl,knx,kdx⟩:=hv;have hpx:=hqx.pos;have Qx:=Lib.hid hqx;obtain⟨bx,sx,tx,mx,d0x,rfl,hsx,hnx,htx,hdx⟩:=hqx;have Zx:=Lib.hid (show IsZ w (.agg #[.bool bx,sx]) nx from⟨_,_,_,rfl,hsx,hnx⟩);clear hnx hdx
 go_enter Tryz.func24,Tryz.ntmps24
 go_wp2_with fail;obtain⟨w1,hw1,e1,b1,b2,s1⟩:=alloc2 w #[.bool bx,sx,tx] #[.bool false,.slice none 0 0,.slice none 0 0] 36 36;rw[←hw1];clear hw1;refine wpP [⟨5,(w.heap.size+1),36,PP.frQ (mkRat nx dx)⟩] [PP.val (.pointer (some ⟨w.heap.size,0,none⟩)),PP.val (.agg #[.bool bx,sx]),PP.val (.agg #[.bool bx,sx,tx]),PP.isN .u64 W dx,PP.frQ (mkRat nx dx),PP.any] [] [5,4,3,2,1,0] ?_ ?_ ?_ ?_ ?_
 ·intro x hx;simp only[List.mem_singleton]at hx;subst hx;exact⟨by show(w.heap.size+1)<w1.heap.size;omega,rfl⟩
 ·intro x hx;simp only[List.mem_singleton]at hx;subst hx;rfl
 ·intro x hx y hy h;simp only[List.mem_singleton]at hx hy;subst hx hy;exact absurd rfl h
 ·refine⟨?_,?_,?_,?_,?_,?_,trivial⟩
  ·intro f w2 hG hp hl;simp only[OpGoal];go_simp;exact⟨_,rfl,Ext.refl _,rfl⟩
  ·intro f w2 hG hp hl;have hE:Ext w1 w2:=hG;have q3:=tE hp 0 0 rfl rfl rfl;have hbx:=b1.ext hE;have hcell0:=hbx.cell 0;have hcell1:=hbx.cell 1;have hcell2:=hbx.cell 2;simp only[OpGoal];go_simp;exact⟨_,rfl,Ext.refl _,rfl⟩
  ·intro f w2 hG hp hl;have hE:Ext w1 w2:=hG;change OpGoal _ _ _ f w2 Ext _;exact og_load (P:=Tryz.prog) _ _ w.heap.size _ _ _ rfl rfl rfl (b1.ext hE) Tryz.underlying36 rfl (by kernel_rfl) rfl
  ·intro f w2 hG hp hl;have hE:Ext w1 w2:=hG;have q5:=tE hp 0 2 rfl rfl rfl;change OpGoal _ _ _ f w2 Ext _;refine oC #[f 2] Tryz.func39 rfl rfl ?_;rw[q5];refine(under_calls _ nx dx _ (Qx.out.ext (e1.trans hE))).mono ?_;rintro e w' ⟨v',rfl,h1,h2⟩;exact⟨v',rfl,h2,h1⟩
  ·intro f w2 hG hp hl;have hE:Ext w1 w2:=hG;have hS:=hE.size;have q4:=tE hp 0 1 rfl rfl rfl;have q6:=tellV hp 1 3 rfl rfl (fun _=>hE);change OpGoal _ _ _ f w2 Ext _;refine oC #[f 1,f 3] Tryz.func38 rfl rfl ?_;rw[q4];refine(lowest_calls _ _ nx dx _ (Zx.out.ext (e1.trans hE)) q6 hpx (by omega) (by omega)).mono ?_;rintro e w' ⟨v',rfl,h1,h2⟩;exact⟨v',rfl,h2,h1.mono hS⟩
  ·intro f w2 hG hp hl;have hE:Ext w1 w2:=hG;have hS:=hE.size;have q7:=tellV hp 0 4 rfl rfl (fun _=>hE);intro hg0;change OpGoal _ _ _ f w2 (Chg _) _;obtain⟨s',t',hv,hn,hm⟩:=q7;exact og_store (P:=Tryz.prog) _ _ _ (w.heap.size+1) _ _ _ (PP.frQ _:PP _).p rfl rfl rfl hv (show Bx 36 w2 _ _ from hg0.trans b2) (by kernel_rfl) rfl (all3 rfl hn.oneCell hm.oneCell) (fun w' h=>⟨s',t',rfl,hn.chg h (by omega),hm.chg h (by omega)⟩)
 ·intro f w2 hG hp;obtain⟨cs0,hbx0,hz0⟩:∃cs,Bx 36 w2 (w.heap.size+1) cs∧(PP.frQ (mkRat nx dx):PP w1.heap.size).p (.agg cs) w2:=endS hp 5 (by decide);clear hp;have hz1:=hz0.mono (show w.heap.size≤_ by omega);obtain⟨s',t',hvv,hnn,hmm⟩:=hz0
  cases hvv
  go_wp2;refine ret_box 2 36 (w.heap.size+1) 36 _ _ (by kernel_rfl) rfl hbx0 Tryz.underlying36 rfl (by kernel_rfl) rfl ?_;exact⟨_,rfl,hz1,e1.stepS hG (by simp)⟩
end Go.Proofs.YthoibjnkhkjnjaaGreat
