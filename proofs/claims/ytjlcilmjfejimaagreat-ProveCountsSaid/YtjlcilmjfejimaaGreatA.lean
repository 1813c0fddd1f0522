/- Numbers as lists of places, the one of the least weight first. -/
import Derived.KernelRfl
import Derived.WalkKit
import Derived.Lib.Hide
import Derived.Deep.QuietTactic
import Derived.Test.YtjlcilmjfejimaaGreatProg
import Derived.WalkSpells
import Derived.WalkLawsBesides
import Derived.BigQuiet
import Derived.Handy
import Derived.Test.YtjlcilmjfejimaaGreatShelf
import Derived.Shelf.Spec.BitsCarry
import Derived.Lib.ItoaNum
import Derived.Deep.RegionWith
namespace Go.Proofs.YtjlcilmjfejimaaGreat
set_option maxRecDepth 100000
set_option maxHeartbeats 32000000
set_option linter.unusedVariables false
set_option linter.unusedSimpArgs false
open Go.RowKit
instance:Coe Int Value:=⟨.int .i64⟩
instance:Coe Nat Value:=⟨λn=>.int .i64 (n:Int)⟩
instance:Coe Bool Value:=⟨.bool⟩
instance:Coe ByteArray Value:=⟨.string⟩
instance(g o:Nat):CoeDep (Nat×Nat) (g,o) Addr:=⟨⟨g,o,none⟩⟩
instance(g o:Nat):CoeDep (Nat×Nat) (g,o) (Option Addr):=⟨some ⟨g,o,none⟩⟩
instance(g o:Nat):CoeDep (Nat×Nat) (g,o) Value:=⟨.pointer (some ⟨g,o,none⟩)⟩
instance(g o n c:Nat):CoeDep (Nat×Nat×Nat×Nat) (g,o,n,c) Value:=⟨.slice (some ⟨g,o,none⟩) n c⟩
instance(g:Nat):CoeDep Nat g Addr:=⟨⟨g,0,none⟩⟩
instance(g:Nat):CoeDep Nat g (Option Addr):=⟨some ⟨g,0,none⟩⟩
instance(g n c:Nat):CoeDep (Nat×Nat×Nat) (g,n,c) Value:=⟨.slice (some ⟨g,0,none⟩) n c⟩
instance(a:Option Addr)(n c:Nat):CoeDep (Option Addr×Nat×Nat) (a,n,c) Value:=⟨.slice a n c⟩
instance:CoeDep Unit () Value:=⟨.slice none 0 0⟩
instance:Coe World Nat:=⟨λw=>w.heap.size⟩
instance(w:World):CoeDep World w Addr:=⟨⟨w.heap.size,0,none⟩⟩
instance(w:World):CoeDep World w (Option Addr):=⟨some ⟨w.heap.size,0,none⟩⟩
instance(w:World)(o:Nat):CoeDep (World×Nat) (w,o) Addr:=⟨⟨w.heap.size,o,none⟩⟩
instance(w:World)(o:Nat):CoeDep (World×Nat) (w,o) (Option Addr):=⟨some ⟨w.heap.size,o,none⟩⟩
instance(w:World)(o:Nat):CoeDep (World×Nat) (w,o) Value:=⟨.pointer (some ⟨w.heap.size,o,none⟩)⟩
instance(w:World)(o n c:Nat):CoeDep (World×Nat×Nat×Nat) (w,o,n,c) Value:=⟨.slice (some ⟨w.heap.size,o,none⟩) n c⟩
instance(w:World)(n c:Nat):CoeDep (World×Nat×Nat) (w,n,c) Value:=⟨.slice (some ⟨w.heap.size,0,none⟩) n c⟩
variable{G:Prop}
theorem oL(h:G:=by
 intro f w hG hp hl
 simp [lY,wM,yT,Region.binds,kL,kP]at hp
 simp only[kM];go_simp;exact⟨_,rfl,Ext.refl _,rfl⟩):G:=h
theorem om(h:G:=by omega):G:=h
theorem kr(h:G:=by kernel_rfl):G:=h
theorem sm(h:G:=by simp):G:=h
theorem de(h:G:=by decide):G:=h
theorem lq(h:G:=by rw[mR];omega):G:=h
theorem hF(h:G:=by
 intro f;simp only[mJ,mO,List.setIfInBounds_toArray,List.set_cons_succ,List.set_cons_zero,Nat.reduceAdd];rfl):G:=h
theorem ex{α:Sort _}(a:α):∃x,x=a:=⟨a,rfl⟩
theorem ci{a b:Int}(h:a=b):Value.int .i64 a=.int .i64 b:=congrArg _ h
theorem lr{n:Nat}:n<=n:=Nat.le_refl n
theorem zl{n:Nat}:0<=n:=Nat.zero_le n
theorem WH5(h:G:=by
 have hq5:(e:Int)<(b:Int):=by have:=HA.out;have:=HB.out;have:=HAS.out;have:=HEB.out;omega
 go_wp2_with fail;refine(rZ _ n cap g rest (A++L1) L2 R1 (R2++S) wr s m e (by have:=HA.out;have:=HB.out;have:=HAS.out;have:=HEB.out;simp only[aB];omega) hN (by have:=HA.out;have:=HB.out;have:=HAS.out;have:=HEB.out;simp only[aB];omega) (by have:=HA.out;have:=HB.out;have:=HAS.out;have:=HEB.out;omega) (by have:=HA.out;have:=HB.out;have:=HAS.out;have:=HEB.out;omega) (by have:=HA.out;have:=HB.out;have:=HAS.out;have:=HEB.out;omega) (by have:=HA.out;have:=HB.out;have:=HAS.out;have:=HEB.out;omega) (by simpa[aG]using H0.out)).mono ?_;rintro ee w2 ⟨rfl,hc2,hH2⟩;have H1:=a8 (show kY g rest w2 (A++(L1++R1)++(L2++R2++S))by simpa[aG]using hH2);have hC1:Chg g w w2:=(hex.chg g).trans hc2;clear hH2 hc2;go_wp2_with fail;refine(HIH.out A L1 R1 (L2++R2++S) w2 a s mid (by have:=HA.out;have:=HB.out;have:=HAS.out;have:=HEB.out;omega) (by have:=HA.out;have:=HB.out;have:=HAS.out;have:=HEB.out;simp only[aB];omega) (by have:=HA.out;omega) (by have:=HA.out;have:=HB.out;have:=HAS.out;have:=HEB.out;omega) (by have:=HA.out;have:=HB.out;have:=HAS.out;have:=HEB.out;omega) (by have:=HA.out;have:=HB.out;have:=HAS.out;have:=HEB.out;omega) (by have:=HA.out;have:=HB.out;have:=HAS.out;have:=HEB.out;omega) HR.out.1 HR.out.2.2.1 (by simpa[aG]using H1.out)).mono ?_;rintro ee w3 ⟨rfl,hc3,M1,hp1,hs1,hH3⟩;have HM1:=a8 (aD hp1 (aD hs1 hH3));have hC3:Chg g w w3:=hC1.trans hc3;clear hp1 hs1 hH3 hc3;go_wp2_with fail;refine(HIH.out (A++M1) L2 R2 S w3 mid e b (by have:=HA.out;have:=HB.out;have:=HAS.out;have:=HEB.out;omega) (by have:=HA.out;have:=HB.out;have:=HAS.out;have:=HEB.out;have:=HM1.out.1.length_eq;simp only[aB]at this ⊢;omega) (by have:=HA.out;have:=HB.out;have:=HAS.out;have:=HEB.out;have:=HM1.out.1.length_eq;simp only[aB]at this ⊢;omega) (by have:=HA.out;have:=HB.out;have:=HAS.out;have:=HEB.out;omega) (by have:=HA.out;have:=HB.out;have:=HAS.out;have:=HEB.out;omega) (by have:=HA.out;have:=HB.out;have:=HAS.out;have:=HEB.out;omega) (by have:=HA.out;have:=HB.out;have:=HAS.out;have:=HEB.out;omega) HR.out.2.1 HR.out.2.2.2 (by simpa[aG]using HM1.out.2.2)).mono ?_;rintro ee w4 ⟨rfl,hc4,M2,hp2,hs2,hH4⟩;have HM2:=a8 (aD hp2 (aD hs2 (show kY g rest w4 (A++(M1++M2)++S)by simpa[aG]using hH4)));have hC4:Chg g w w4:=hC3.trans hc4;clear hp2 hs2 hH4 hc4;have HFN:=a8 (HMG.out M1 M2 HM1.out.1 HM2.out.1 HM1.out.2.1 HM2.out.2.1);have HF2:=a8 HM2.out.2.2;clear HMG HM1 HM2 HIH H1;go_wp2;go_end0;exact⟨rfl,hC4,M1++M2,HFN.out.1,HFN.out.2,by simpa only[aG]using HF2.out⟩):G:=h
theorem Ml5(h:G:=by
 rintro e w7 ⟨v7,rfl,hq7,x7⟩;have x67:=x6.trans x7;have hs7:=x67.size;have T7:=a8 (HT4.out.ext x67);have hp:=(b4.ext x67);have hq:=(BQ4.ext x67);obtain⟨bb,ad1,m1,e1,ad2,m2,e2,rfl,hfr⟩:=FrQ.opn hq7;have Q7:=a8 (aD (hfr.mono (show w.heap.size+2<=_ by omega)) (LK hs6 om));have X7:=a8 (X4.trans x67);obtain⟨hp0,hp1,hp2,hp3,hp4,-⟩:=hp.cl [0,1,2,3,4];obtain⟨hpf0,hpf1,hpf2,hpf3,hpf4,-⟩:=hp.fl [0,1,2,3,4];obtain⟨hq0,hq1,hq2,hq3,hq4,-⟩:=hq.cl [0,1,2,3,4];obtain⟨hqf0,hqf1,hqf2,hqf3,hqf4,-⟩:=hq.fl [0,1,2,3,4];clear b4 BQ4 HQ4 HT4 hq7 hfr hz6 x6 x7 x67;go_wp2;have hq2:=hq.chg ((((Chg.setCell w7 w.heap.size 2 (.bool bb)).trans (Chg.setCell _ w.heap.size 3 (.slice ad1 m1 e1))).trans (Chg.setCell _ w.heap.size 4 (.slice ad2 m2 e2))):Chg w.heap.size _ _) om;clear hq;obtain⟨hq, -⟩:=aD hq2 trivial;refine nP 4 5 39 (w.heap.size+1) 39 _ _ _ kr rfl rfl (((((hq.set 0 _).set 1 _).set 2 _).set 3 _).set 4 _) underlying39 rfl kr rfl ?_;refine⟨_,by rw[HE.out]<;>rfl,(X7.out.step (((Chg.setCell w7 w.heap.size 2 (.bool bb)).trans (Chg.setCell _ w.heap.size 3 (.slice ad1 m1 e1))).trans (Chg.setCell _ w.heap.size 4 (.slice ad2 m2 e2))) lr).step (((((Chg.setCell _ (w.heap.size+1) 0 _).trans (Chg.setCell _ (w.heap.size+1) 1 _)).trans (Chg.setCell _ (w.heap.size+1) 2 _)).trans (Chg.setCell _ (w.heap.size+1) 3 _)).trans (Chg.setCell _ (w.heap.size+1) 4 _)) (Nat.le_succ _),λ_=> ?_,λh=>absurd HE.out h⟩
 rw[HV.out];exact⟨a',n',p',bb,ad1,m1,e1,ad2,m2,e2,rfl,(((T7.out.chg ((((Chg.setCell w7 w.heap.size 2 (.bool bb)).trans (Chg.setCell _ w.heap.size 3 (.slice ad1 m1 e1))).trans (Chg.setCell _ w.heap.size 4 (.slice ad2 m2 e2))):Chg w.heap.size _ _) om).chg ((((((Chg.setCell _ (w.heap.size+1) 0 _).trans (Chg.setCell _ (w.heap.size+1) 1 _)).trans (Chg.setCell _ (w.heap.size+1) 2 _)).trans (Chg.setCell _ (w.heap.size+1) 3 _)).trans (Chg.setCell _ (w.heap.size+1) 4 _)):Chg (w.heap.size+1) _ _) om).mono om).le om,(((Q7.out.1.chg ((((Chg.setCell w7 w.heap.size 2 (.bool bb)).trans (Chg.setCell _ w.heap.size 3 (.slice ad1 m1 e1))).trans (Chg.setCell _ w.heap.size 4 (.slice ad2 m2 e2))):Chg w.heap.size _ _) om).chg ((((((Chg.setCell _ (w.heap.size+1) 0 _).trans (Chg.setCell _ (w.heap.size+1) 1 _)).trans (Chg.setCell _ (w.heap.size+1) 2 _)).trans (Chg.setCell _ (w.heap.size+1) 3 _)).trans (Chg.setCell _ (w.heap.size+1) 4 _)):Chg (w.heap.size+1) _ _) om).mono om),aE Q7.out.2 om⟩):G:=h
theorem JB9(h:G:=by
 refine⟨oL,oL,?_,?_,oL,?_,oL,?_,?_,oL,?_,trivial⟩
 .intro f wa hG hp hl;have q62:f 0= .slice (some ⟨gq,offq,none⟩) n capq:=mL hp 0 0 rfl rfl (λh=>by cases h);have q63:f 1= .int .i64 (i:Int):=mL hp 1 1 rfl rfl (λh=>by cases h);simp only[kM];go_simp;exact⟨_,rfl,rE,rfl⟩
 .intro f wa hG hp hl;have hE:Ext w8 wa:=hG;have q64:f 2= .pointer (some ⟨gq,offq+i*3,none⟩):=mL hp 0 2 rfl rfl (λh=>by cases h);change kM _ _ _ f wa Ext _;exact kW (P:=prog) _ _ gq (offq+i*3) _ _ rfl rfl q64 (λj v h=>HYC.out _ (X8.trans hE) j v h) underlying37 rfl kr rfl
 .intro f wa hG hp hl;have hE:Ext w8 wa:=hG;have q66:f 4= .pointer (some ⟨wr.heap.size,1,none⟩):=mL hp 0 4 rfl rfl (λh=>by cases h);have hcell:=(C8.ext hE).cell 1;simp only[kM];go_simp;exact⟨_,rfl,rE,rfl⟩
 .intro f wa hG hp hl;have hE:Ext w8 wa:=hG;have q68:f 6= .pointer (some ⟨g9,1,none⟩):=mL hp 0 6 rfl rfl (λh=>by cases h);have hcell:=(S8.ext hE).cell 1;simp only[kM];go_simp;exact⟨_,rfl,rE,rfl⟩
 .intro f wa hG hp hl;have hE:Ext w8 wa:=hG;have hS:=hE.size;have q65:f 3= .agg #[.bool yb,.slice y1 z1 p1,.slice y2 z2 p2]:=mL hp 0 3 rfl rfl (λh=>by cases h);have q67:f 5= .slice ay ny py:=mL hp 1 5 rfl rfl (λh=>by cases h);have q69:f 7= .slice a n' p:=mL hp 2 7 rfl rfl (λh=>by cases h);change kM _ _ _ f wa Ext _;refine oC #[f 3,f 5,f 7] func151 rfl rfl ?_;rw[q65,q67,q69];refine(wS ky k K (K+ky+k) _ _ _ q r (mkV (rF qs (nH cs0) i)) _ (HYR.out.ext (X8.trans hE)) (HTL.out.ext (X8.trans hE)) ((HSV.out.ext hE).tl om) om om HAX.out.2 HAX.out.1).mono ?_;rintro e w' ⟨v',rfl,h1,h2⟩;rw[HMK.out]at h1;exact⟨v',rfl,h2,(h1.to HSZ.out).mono hS⟩
 .intro f wa hG hp hl;have hE:Ext w8 wa:=hG;have hS:=hE.size;have q71:f 9= .pointer (some ⟨g9,1,none⟩):=mL hp 0 9 rfl rfl (λh=>by cases h);have q70:=mL hp 1 8 rfl rfl (λ_=>hE);intro hg0;change kM _ _ _ f wa (Chg _) _;obtain⟨ad',cap',hv⟩:=TO.val q70;have hto:=q70;rw[hv]at hto;exact qV (P:=prog) g9 1 39 _ [.int .i64 s,.slice a n' p,.bool b,.slice a1 n1 c1,.slice a2 n2 c2] ad' _ cap' _ _ rfl rfl q71 hv kr (show Bx 39 wa _ _ from hg0.trans S8) (show 1<5 by decide) (λw' hc hb u=>⟨ad',_,cap',hb,hto.chg hc om⟩)):G:=h
theorem LE0(h:G:=by
 go_wp2
 go_loopw [6] (λi wr=>∃k:Nat,k<=n/\i= .int .i64 ((k:Int) - 1)/\Hid (hiV TK xs k=hiV TK ys k)/\Ext w wr) (λi _=>(intOf i+1).toNat)
 case atStart=>exact ⟨n,lr,by rw[HN.out],Hh,rE⟩
 case round=>
  obtain⟨k,hk,rfl,ht,hex⟩:=hrel;rcases aR k with hk0 |hk0
  .subst hk0;have hfin:o6 x y=0:=by
    have:=ht.out;rw[wH,wH,Hx.out,Hy.out]at this;simp[o6,this]
   go_wp2;go_ret;exact⟨oF hfin.symm,hex⟩
  .obtain⟨j,rfl⟩:∃j,k=j+1:=⟨k - 1,om⟩;rw[show ((j+1:Nat):Int) - 1=(j:Int)from om];have sx:=wG (B:=TK) xs j;have sy:=wG (B:=TK) ys j;rw[<-ht.out]at sy;obtain⟨a,ha⟩:=ex (gD xs j);obtain⟨b,hb⟩:=ex (gD ys j);have pa:=qF ad cap xs j;have pb:=qF ad2 cap2 ys j;rw[<-ha]at sx pa;rw[<-hb]at sy pb;have Sx:=a8 sx;have Sy:=a8 sy;clear sx sy ha hb;have pa':=λwz=>a8 (pa wz)
   have pb':=λwz=>a8 (pb wz)
   clear pa pb;rcases eZ a b with h1 |h1 |h1
   .have hfin:o6 x y= -1:=by
     have:val TK xs<val TK ys:=AR (by rw[nB];omega) dx j (by rw[Sx.out,Sy.out];omega);rw[Hx.out,Hy.out]at this;simp[o6,this]
    go_wp2_with fail;refine((pa' wr).out (hr.ext hex) om om).mono ?_;rintro e w' ⟨rfl,rfl⟩;go_wp2_with fail;refine((pb' wr).out (hr2.ext hex) om om).mono ?_;rintro e w' ⟨rfl,rfl⟩;go_wp2;go_ret;exact⟨oF hfin.symm,hex⟩
   .subst h1;have ht2:Hid (hiV TK xs j=hiV TK ys j):=by show hiV TK xs j=hiV TK ys j;rw[Sx.out,Sy.out]
    go_wp2_with fail;refine((pa' wr).out (hr.ext hex) om om).mono ?_;rintro e w' ⟨rfl,rfl⟩;go_wp2_with fail;refine((pb' wr).out (hr2.ext hex) om om).mono ?_;rintro e w' ⟨rfl,rfl⟩;go_wp2;go_roundw
    case rel=>exact ⟨j,om,rfl,ht2,hex⟩
    case measure=>simp [intOf]
   .have hfin:o6 x y=1:=by
     have:val TK ys<val TK xs:=AR (by rw[nB];omega) dy j (by rw[Sx.out,Sy.out];omega);rw[Hx.out,Hy.out]at this;simp[o6,show¬x<y by omega,show¬x=y by omega]
    go_wp2_with fail;refine((pa' wr).out (hr.ext hex) om om).mono ?_;rintro e w' ⟨rfl,rfl⟩;go_wp2_with fail;refine((pb' wr).out (hr2.ext hex) om om).mono ?_;rintro e w' ⟨rfl,rfl⟩;go_wp2;go_ret;exact⟨oF hfin.symm,hex⟩):G:=h
theorem qv0(h:G:=by
 have HAS:=a8 has;have HEB:=a8 heb;clear has heb;have hq0:(s:Int)<(m:Int):=by have:=HA.out;have:=HB.out;have:=HAS.out;have:=HEB.out;omega
 have hq1:(m:Int)<(e:Int):=by have:=HA.out;have:=HB.out;have:=HAS.out;have:=HEB.out;omega
 have hq2:¬(a:Int)<(s:Int):=by have:=HA.out;have:=HB.out;have:=HAS.out;have:=HEB.out;omega
 have hq3:(s:Int)<(mid:Int):=by have:=HA.out;have:=HB.out;have:=HAS.out;have:=HEB.out;omega
 have hq4:(mid:Int)<(e:Int):=by have:=HA.out;have:=HB.out;have:=HAS.out;have:=HEB.out;omega
 have hq5:¬(e:Int)<(b:Int):=by have:=HA.out;have:=HB.out;have:=HAS.out;have:=HEB.out;omega
 go_wp2_with fail;refine(rZ _ n cap g rest (A++L1) L2 R1 (R2++S) wr s m e (by have:=HA.out;have:=HB.out;have:=HAS.out;have:=HEB.out;simp only[aB];omega) hN (by have:=HA.out;have:=HB.out;have:=HAS.out;have:=HEB.out;simp only[aB];omega) (by have:=HA.out;have:=HB.out;have:=HAS.out;have:=HEB.out;omega) (by have:=HA.out;have:=HB.out;have:=HAS.out;have:=HEB.out;omega) (by have:=HA.out;have:=HB.out;have:=HAS.out;have:=HEB.out;omega) (by have:=HA.out;have:=HB.out;have:=HAS.out;have:=HEB.out;omega) (by simpa[aG]using H0.out)).mono ?_;rintro ee w2 ⟨rfl,hc2,hH2⟩;have H1:=a8 (show kY g rest w2 (A++(L1++R1)++(L2++R2++S))by simpa[aG]using hH2);have hC1:Chg g w w2:=(hex.chg g).trans hc2;clear hH2 hc2;obtain⟨M1,HM1⟩:∃M1,Hid (M1.Perm (L1++R1)/\Ris lU M1/\kY g rest w2 (A++M1++(L2++R2++S))):=⟨L1++R1,a8 ⟨dU _,oH HR.out.1 HR.out.2.2.1 (by have:=HA.out;have:=HB.out;have:=HAS.out;have:=HEB.out;omega),H1.out⟩⟩;have hC3:Chg g w w2:=hC1;obtain⟨M2,HM2⟩:∃M2,Hid (M2.Perm (L2++R2)/\Ris lU M2/\kY g rest w2 (A++(M1++M2)++S)):=⟨L2++R2,a8 ⟨dU _,oH HR.out.2.1 HR.out.2.2.2 (by have:=HA.out;have:=HB.out;have:=HAS.out;have:=HEB.out;omega),by simpa[aG]using HM1.out.2.2⟩⟩;have hC4:Chg g w w2:=hC3;have HFN:=a8 (HMG.out M1 M2 HM1.out.1 HM2.out.1 HM1.out.2.1 HM2.out.2.1);have HF2:=a8 HM2.out.2.2;clear HMG HM1 HM2 HIH H1;go_wp2;go_end0;exact⟨rfl,hC4,M1++M2,HFN.out.1,HFN.out.2,by simpa only[aG]using HF2.out⟩):G:=h
theorem lX2(h:G:=by
 obtain⟨k,hk,rfl,ht,hex⟩:=hrel;rcases aR k with hk0 |hk0
 .subst hk0;have hfin:o6 x y=0:=by
   have:=ht.out;rw[wH,wH,Hx.out,Hy.out]at this;simp[o6,this]
  go_wp2;go_ret;exact⟨oF hfin.symm,hex⟩
 .obtain⟨j,rfl⟩:∃j,k=j+1:=⟨k - 1,om⟩;rw[show ((j+1:Nat):Int) - 1=(j:Int)from om];have sx:=wG (B:=TK) xs j;have sy:=wG (B:=TK) ys j;rw[<-ht.out]at sy;obtain⟨a,ha⟩:=ex (gD xs j);obtain⟨b,hb⟩:=ex (gD ys j);have pa:=qF ad cap xs j;have pb:=qF ad2 cap2 ys j;rw[<-ha]at sx pa;rw[<-hb]at sy pb;have Sx:=a8 sx;have Sy:=a8 sy;clear sx sy ha hb;have pa':=λwz=>a8 (pa wz)
  have pb':=λwz=>a8 (pb wz)
  clear pa pb;rcases eZ a b with h1 |h1 |h1
  .have hfin:o6 x y= -1:=by
    have:val TK xs<val TK ys:=AR (by rw[nB];omega) dx j (by rw[Sx.out,Sy.out];omega);rw[Hx.out,Hy.out]at this;simp[o6,this]
   go_wp2_with fail;refine((pa' wr).out (hr.ext hex) om om).mono ?_;rintro e w' ⟨rfl,rfl⟩;go_wp2_with fail;refine((pb' wr).out (hr2.ext hex) om om).mono ?_;rintro e w' ⟨rfl,rfl⟩;go_wp2;go_ret;exact⟨oF hfin.symm,hex⟩
  .subst h1;have ht2:Hid (hiV TK xs j=hiV TK ys j):=by show hiV TK xs j=hiV TK ys j;rw[Sx.out,Sy.out]
   go_wp2_with fail;refine((pa' wr).out (hr.ext hex) om om).mono ?_;rintro e w' ⟨rfl,rfl⟩;go_wp2_with fail;refine((pb' wr).out (hr2.ext hex) om om).mono ?_;rintro e w' ⟨rfl,rfl⟩;go_wp2;go_roundw
   case rel=>exact ⟨j,om,rfl,ht2,hex⟩
   case measure=>simp [intOf]
  .have hfin:o6 x y=1:=by
    have:val TK ys<val TK xs:=AR (by rw[nB];omega) dy j (by rw[Sx.out,Sy.out];omega);rw[Hx.out,Hy.out]at this;simp[o6,show¬x<y by omega,show¬x=y by omega]
   go_wp2_with fail;refine((pa' wr).out (hr.ext hex) om om).mono ?_;rintro e w' ⟨rfl,rfl⟩;go_wp2_with fail;refine((pb' wr).out (hr2.ext hex) om om).mono ?_;rintro e w' ⟨rfl,rfl⟩;go_wp2;go_ret;exact⟨oF hfin.symm,hex⟩):G:=h
theorem pW8(h:G:=by
 obtain⟨j,rfl⟩:∃j,k=j+1:=⟨k - 1,om⟩;rw[show ((j+1:Nat):Int) - 1=(j:Int)from om];have sx:=wG (B:=TK) xs j;have sy:=wG (B:=TK) ys j;rw[<-ht.out]at sy;obtain⟨a,ha⟩:=ex (gD xs j);obtain⟨b,hb⟩:=ex (gD ys j);have pa:=qF ad cap xs j;have pb:=qF ad2 cap2 ys j;rw[<-ha]at sx pa;rw[<-hb]at sy pb;have Sx:=a8 sx;have Sy:=a8 sy;clear sx sy ha hb;have pa':=λwz=>a8 (pa wz)
 have pb':=λwz=>a8 (pb wz)
 clear pa pb;rcases eZ a b with h1 |h1 |h1
 .have hfin:o6 x y= -1:=by
   have:val TK xs<val TK ys:=AR (by rw[nB];omega) dx j (by rw[Sx.out,Sy.out];omega);rw[Hx.out,Hy.out]at this;simp[o6,this]
  go_wp2_with fail;refine((pa' wr).out (hr.ext hex) om om).mono ?_;rintro e w' ⟨rfl,rfl⟩;go_wp2_with fail;refine((pb' wr).out (hr2.ext hex) om om).mono ?_;rintro e w' ⟨rfl,rfl⟩;go_wp2;go_ret;exact⟨oF hfin.symm,hex⟩
 .subst h1;have ht2:Hid (hiV TK xs j=hiV TK ys j):=by show hiV TK xs j=hiV TK ys j;rw[Sx.out,Sy.out]
  go_wp2_with fail;refine((pa' wr).out (hr.ext hex) om om).mono ?_;rintro e w' ⟨rfl,rfl⟩;go_wp2_with fail;refine((pb' wr).out (hr2.ext hex) om om).mono ?_;rintro e w' ⟨rfl,rfl⟩;go_wp2;go_roundw
  case rel=>exact ⟨j,om,rfl,ht2,hex⟩
  case measure=>simp [intOf]
 .have hfin:o6 x y=1:=by
   have:val TK ys<val TK xs:=AR (by rw[nB];omega) dy j (by rw[Sx.out,Sy.out];omega);rw[Hx.out,Hy.out]at this;simp[o6,show¬x<y by omega,show¬x=y by omega]
  go_wp2_with fail;refine((pa' wr).out (hr.ext hex) om om).mono ?_;rintro e w' ⟨rfl,rfl⟩;go_wp2_with fail;refine((pb' wr).out (hr2.ext hex) om om).mono ?_;rintro e w' ⟨rfl,rfl⟩;go_wp2;go_ret;exact⟨oF hfin.symm,hex⟩):G:=h
theorem kE0(h:G:=by
 have hlt:(i:Int)<(N:Int):=om;go_wp2_with fail;refine(mT 0 _ om om).mono ?_;rintro e w6 ⟨v6,rfl,q6,e6⟩;obtain⟨b6,a6,l6,k6,a6',l6',k6',rfl,q6⟩:=q6.opn;obtain⟨hEw,vs,j1,j2,j3, -⟩:=hH.out;have hF:Hid (FrK w.heap.size K w6 (.agg #[.bool b6,.slice a6 l6 k6,.slice a6' l6' k6']) 0):=a8 ⟨q6.mono hEw.size,by have:=szQ0;have:=HK.out;show szQ ((0:Int):Rat)<=K;omega⟩;have hqq:Hid (∀j:Nat,(if j<i+1 then some (0:Rat)else none)=if j=i then some 0 else(if j<i then some 0 else none)):=a8 λj=>by
  by_cases hj:j=i
  .rw[if_pos om,if_pos hj]
  .rw[if_neg hj];by_cases hji:j<i
   .rw[if_pos om,if_pos hji]
   .rw[if_neg om,if_neg hji]
 have hsz:(kX vs).toArray.size=N*3:=by rw[fV,mU j2.size,j3]
 have hb5:=j1.ext e6;obtain⟨y0,hk0⟩:∃y,w6.cell? ⟨g7,i*3,none⟩=some y:=⟨_,by rw[hb5.cell];exact cV om⟩;obtain⟨y1,hk1⟩:∃y,w6.cell? ⟨g7,i*3+1,none⟩=some y:=⟨_,by rw[hb5.cell];exact cV om⟩;obtain⟨y2,hk2⟩:∃y,w6.cell? ⟨g7,i*3+2,none⟩=some y:=⟨_,by rw[hb5.cell];exact cV om⟩;have hf0:=hb5.free (i*3);have hf1:=hb5.free (i*3+1);have hf2:=hb5.free (i*3+2);clear j1 j2 j3 hb5 hsz q6;go_wp2;go_roundw
 case rel=>
  refine⟨i+1,om,sm,a8 (hH.out.set e6 om hin hF.out hqq.out),?_⟩;exact(hE0.trans e6).step (Chg.trans (Chg.trans (Chg.setCell _ g7 _ _) (Chg.setCell _ g7 _ _)) (Chg.setCell _ g7 _ _)) hgw
 case measure=>simp [intOf];omega):G:=h
theorem Xr7(h:G:=by
 refine⟨oL,oL,oL,oL,?_,oL,?_,oL,oL,oL,?_,?_,?_,oL,trivial⟩
 .intro f w2 hG hp hl;have hE:Ext wr w2:=hG;have hS:=hE.size;have q160:=tE hp 0 2 rfl rfl rfl;have q161:=tE hp 1 3 rfl rfl rfl;simp only[kM];go_simp;first
  |exact ⟨_,rfl,rE,rfl⟩
  |exact ⟨_,rfl,rE,ci (cC _ ⟨om,om⟩)⟩
 .intro f w2 hG hp hl;have hE:Ext wr w2:=hG;have q163:=tE hp 0 5 rfl rfl rfl;change kM _ _ _ f w2 Ext _;exact kW (P:=prog) _ _ g (q*4) _ _ rfl rfl q163 (λj v h=>HCq.out _ hE j v h) underlying67 rfl kr rfl
 .intro f w2 hG hp hl;have hE:Ext wr w2:=hG;have q167:=tE hp 0 9 rfl rfl rfl;change kM _ _ _ f w2 Ext _;exact kW (P:=prog) _ _ g (c*4) _ _ rfl rfl q167 (λj v h=>HCc.out _ hE j v h) underlying67 rfl kr rfl
 .intro f w2 hG hp hl;have q158:=tE hp 0 0 rfl rfl rfl;have q164:=tE hp 1 6 rfl rfl rfl;have q168:=tE hp 2 10 rfl rfl rfl;change kM _ _ _ f w2 Ext _;refine A4 (P:=prog) _ _ _ _ #[f 6,f 10] func96 kr kr rfl rfl q158 kr ?_;rw[q164,q168];refine(vM y x _).mono ?_;rintro e w' ⟨z,rfl,h1,h2⟩;exact⟨_,rfl,h2,z,rfl,h1⟩
 .intro f w2 hG hp hl;have hE:Ext wr w2:=hG;have q169:=kO hp 0 11 rfl rfl (λ_=>hE);obtain⟨z,hz,hzz⟩:=q169;simp only[kM];go_simp;exact⟨_,rfl,rE,congrArg Value.bool (by first | (rw[HR.out];done) | (rw[HR.out];exact decide_eq_decide.2 hzz))⟩):G:=h
theorem Nv7(h:G:=by
 obtain⟨w1,hw1,e1,b1,s1⟩:=kR w #[.bool false,.slice none 0 0,.slice none 0 0] 37;go_wp2_with fail;rw[<-hw1];refine(rS n _ h0 h1).mono ?_;rintro e w2 ⟨v2,rfl,q2,e2⟩;go_wp2_with fail;refine(uI _ (n:Rat) _ q2.cq om).mono ?_;rintro e w5 ⟨v5,rfl,q5,e5⟩;obtain⟨s',t',rfl,hn,hm⟩:=q5;obtain⟨ad5,cap5,rfl⟩:=hn.slice;obtain⟨ad6,cap6,rfl⟩:=hm.slice;have Hn5:=a8 hn;have Hm5:=a8 hm;have E25:=e2.trans e5;have hsz:=e2.size;clear hn hm;have hb:=b1.ext E25;obtain⟨hc0,hc1,hc2,-⟩:=hb.cl [0,1,2];obtain⟨hf0,hf1,hf2,-⟩:=hb.fl [0,1,2];go_wp2;refine l8 2 37 w.heap.size 37 _ _ kr rfl (((hb.set 0 _).set 1 _).set 2 _) underlying37 rfl kr rfl ?_;exact⟨_,rfl,⟨_,_,rfl,(Hn5.out.chg (Chg.trans (Chg.trans (Chg.setCell _ w.heap.size 0 _) (Chg.setCell _ w.heap.size 1 _)) (Chg.setCell _ w.heap.size 2 _)) om).mono om,(Hm5.out.chg (Chg.trans (Chg.trans (Chg.setCell _ w.heap.size 0 _) (Chg.setCell _ w.heap.size 1 _)) (Chg.setCell _ w.heap.size 2 _)) om).mono om⟩,(e1.trans E25).step (Chg.trans (Chg.trans (Chg.setCell _ w.heap.size 0 _) (Chg.setCell _ w.heap.size 1 _)) (Chg.setCell _ w.heap.size 2 _)) om⟩):G:=h
theorem vd3(h:G:=by
 intro f w2 hG hp;have hE:Ext wr w2:=mV.nil hG;have q171:f 13= .bool (!v):=rM hp 13 de rfl (λh=>by cases h);try simp only[q171]
 clear hp
 cases v with
 |true=>
  go_wp2;go_roundw
  case rel=>
   refine⟨s,c,rfl,rfl,hs,hsc,om,a8 ⟨hF.out.1,.inr ⟨y,x,?_,HX.out.2.2,?_⟩⟩,hex.trans hE⟩
   .have:=HY.out.2.2;rw[show mid - 1 - c=q - m by have:=HCQ.out;have:=HA.out;omega];exact this
   .have:=of_decide_eq_true HR.out.symm;show y.c<=x.c;omega
  case measure=>simp [intOf];omega
 |false=>
  obtain⟨c1,hc1⟩:=ex (c+1:Nat);have hc3:(c:Int)+1=(c1:Int):=om;have HH:=a8 hc1;clear hc1;go_wp2;go_roundw
  case rel=>
   refine⟨c1,r,rfl,rfl,om,om,hr,a8 ⟨.inr ⟨x,y,?_,?_,?_⟩,hF.out.2⟩,hex.trans hE⟩
   .rw[show c1 - 1 - a=c - a by have:=HH.out;omega];exact HX.out.2.2
   .have:=HY.out.2.2;rw[show mid - c1=q - m by have:=HCQ.out;have:=HA.out;have:=HH.out;omega];exact this
   .have:=of_decide_eq_false HR.out.symm;show x.c<=y.c;omega
  case measure=>simp [intOf];omega):G:=h
theorem DG5(h:G:=by
 go_wp2_with fail;rw[<-hw1];refine(pJ k K (w.heap.size+2) w.heap.size 1 _ hi ls [] w1 T1.out (bT.ext E1.out) (HT.out.ext E1.out) (HHI.out.ext E1.out) sm hn HK.out.1 HK.out.2).mono ?_;rintro e w2 ⟨rfl,t',x'⟩;have E2:Hid (Ext wa w2):=a8 (x' wa E1.out om);have T2:=a8 t';have hb:=bS.ext E2.out;clear x' t' ha0 ha1 ha2 ha3 ha4 ha5 ha6 ha7;obtain⟨ha0,ha1,ha2,ha3,ha4,ha5,ha6,ha7,-⟩:=hb.cl [0,1,2,3,4,5,6,7];clear hb;obtain⟨hv,hB,hL⟩:=T2.out;obtain⟨ad,cap,rfl⟩:∃ad cap,hv= .slice ad 1 cap:=by
  obtain⟨vs,hLS,hvl, -⟩:=hL;obtain⟨ad,cap,h⟩:=lI hLS.2;exact⟨ad,cap,by rw[h,hvl];rfl⟩
 have hcc:=hB.cell 0;have hcf:=hB.free 0;have HL':=a8 hL;have hgB:=hB.lt;clear hL;go_wp2;refine rX 6 71 (w.heap.size+2) 71 _ 39 kr rfl (hB.set 0 _) underlying71 rfl ?_;have hch:=Chg.setCell w2 (w.heap.size+2) 0 (.slice ad 1 cap);exact⟨_,rfl,by rw[HV.out];exact HL'.out.chg hch om,by rw[HV.out];exactλh=>by simp at h,(ea.trans E2.out).step hch om⟩):G:=h
theorem yZ4(h:G:=by
 go_wp2_with fail;rw[<-hw1];refine(pJ k K (w.heap.size+2) w.heap.size 2 _ lo ls [] w1 T1.out (bT.ext E1.out) (HT.out.ext E1.out) (HLO.out.ext E1.out) sm hn HK.out.1 HK.out.2).mono ?_;rintro e w2 ⟨rfl,t',x'⟩;have E2:Hid (Ext wa w2):=a8 (x' wa E1.out om);have T2:=a8 t';have hb:=bS.ext E2.out;clear x' t' ha0 ha1 ha2 ha3 ha4 ha5 ha6 ha7;obtain⟨ha0,ha1,ha2,ha3,ha4,ha5,ha6,ha7,-⟩:=hb.cl [0,1,2,3,4,5,6,7];clear hb;obtain⟨hv,hB,hL⟩:=T2.out;obtain⟨ad,cap,rfl⟩:∃ad cap,hv= .slice ad 1 cap:=by
  obtain⟨vs,hLS,hvl, -⟩:=hL;obtain⟨ad,cap,h⟩:=lI hLS.2;exact⟨ad,cap,by rw[h,hvl];rfl⟩
 have hcc:=hB.cell 0;have hcf:=hB.free 0;have HL':=a8 hL;have hgB:=hB.lt;clear hL;go_wp2;refine rX 6 71 (w.heap.size+2) 71 _ 39 kr rfl (hB.set 0 _) underlying71 rfl ?_;have hch:=Chg.setCell w2 (w.heap.size+2) 0 (.slice ad 1 cap);exact⟨_,rfl,by rw[HV.out];exact HL'.out.chg hch om,by rw[HV.out];exactλh=>by simp at h,(ea.trans E2.out).step hch om⟩):G:=h
theorem Dv9(h:G:=by
 rw[hz];rintro e w2 ⟨v',rfl,hz,hext⟩;have s2:=nD w1 (.cells #[.int .u64 (z.natAbs:Int)] 165);have e2:=((Ext.refl w1).alloc (.cells #[.int .u64 (z.natAbs:Int)] 165)).trans hext;obtain⟨s',rfl,hn⟩:=hz;obtain⟨ad,cap,rfl⟩:=hn.slice;have Hn:=a8 hn;clear hn;have hb:=b1.ext e2;obtain⟨hc0,hc1,-⟩:=hb.cl [0,1];obtain⟨hf0,hf1,-⟩:=hb.fl [0,1];go_wp2;refine l8 2 35 w.heap.size 35 _ _ kr rfl ((hb.set 0 _).set 1 _) underlying35 rfl kr rfl ?_;exact⟨_,rfl,⟨_,(by first |rfl |simp_all),(Hn.out.chg (Chg.trans (Chg.setCell _ w.heap.size 0 _) (Chg.setCell _ w.heap.size 1 _)) om).mono om⟩,(e1.trans e2).step (Chg.trans (Chg.setCell _ w.heap.size 0 _) (Chg.setCell _ w.heap.size 1 _)) om⟩):G:=h
theorem Ku3(h:G:=by
 intro f wa hG hp hl;have hE:Ext w8 wa:=hG;have hS:=hE.size;have q65:f 3= .agg #[.bool yb,.slice y1 z1 p1,.slice y2 z2 p2]:=mL hp 0 3 rfl rfl (λh=>by cases h);have q67:f 5= .slice ay ny py:=mL hp 1 5 rfl rfl (λh=>by cases h);have q69:f 7= .slice a n' p:=mL hp 2 7 rfl rfl (λh=>by cases h);change kM _ _ _ f wa Ext _;refine oC #[f 3,f 5,f 7] func151 rfl rfl ?_;rw[q65,q67,q69];refine(wS ky k K (K+ky+k) _ _ _ q r (mkV (rF qs (nH cs0) i)) _ (HYR.out.ext (X8.trans hE)) (HTL.out.ext (X8.trans hE)) ((HSV.out.ext hE).tl om) om om HAX.out.2 HAX.out.1).mono ?_;rintro e w' ⟨v',rfl,h1,h2⟩;rw[HMK.out]at h1;exact⟨v',rfl,h2,(h1.to HSZ.out).mono hS⟩):G:=h
theorem Ea4(h:G:=by
 intro f wa hG hp hl;have hE:Ext w9 wa:=hG;have hS:=hE.size;have q82:f 10= .pointer (some ⟨g9,2,none⟩):=mL hp 0 10 rfl rfl (λh=>by cases h);have q81:=mL hp 1 9 rfl rfl (λ_=>hE);intro hg0;change kM _ _ _ f wa (Chg _) _;obtain⟨b',ad1,m1,e1,ad2,m2,e2,hv,hfq⟩:=FrQ.opn q81.1;have hsz:=q81.2;exact oN (P:=prog) g9 2 39 _ [.int .i64 s,.slice a9 n9 p9,.bool b,.slice a1 n1 c1,.slice a2 n2 c2] #[.bool b',.slice ad1 m1 e1,.slice ad2 m2 e2] _ _ rfl rfl q82 hv kr (show Bx 39 wa _ _ from hg0.trans S9) (show 2+3<=5 by decide) (yA rfl rfl rfl) (λw' hc hb u=>⟨b',ad1,m1,e1,ad2,m2,e2,hb,hfq.chg hc om,hsz⟩)):G:=h
theorem oo2(h:G:=by
 intro f wa hG hp hl;have hE:Ext w8 wa:=hG;have hS:=hE.size;have q71:f 9= .pointer (some ⟨g9,1,none⟩):=mL hp 0 9 rfl rfl (λh=>by cases h);have q70:=mL hp 1 8 rfl rfl (λ_=>hE);intro hg0;change kM _ _ _ f wa (Chg _) _;obtain⟨ad',cap',hv⟩:=TO.val q70;have hto:=q70;rw[hv]at hto;exact qV (P:=prog) g9 1 39 _ [.int .i64 s,.slice a n' p,.bool b,.slice a1 n1 c1,.slice a2 n2 c2] ad' _ cap' _ _ rfl rfl q71 hv kr (show Bx 39 wa _ _ from hg0.trans S8) (show 1<5 by decide) (λw' hc hb u=>⟨ad',_,cap',hb,hto.chg hc om⟩)):G:=h
theorem SP6(h:G:=by
 intro f wa hG hp hl;have hE:Ext w9 wa:=hG;have hS:=hE.size;have q77:f 5= .agg #[.bool yb,.slice y1 z1 p1,.slice y2 z2 p2]:=mL hp 0 5 rfl rfl (λh=>by cases h);have q79:f 7= .agg #[.bool bby,.slice a1y n1y c1y,.slice a2y n2y c2y]:=mL hp 1 7 rfl rfl (λh=>by cases h);change kM _ _ _ f wa Ext _;refine oC #[f 5,f 7] func152 rfl rfl ?_;rw[q77,q79];refine(vQ _ _ q x ky k _ (HYR.out.ext (X9.trans hE)) (HRX.out.ext (X9.trans hE)) om).mono ?_;rintro e w' ⟨v',rfl,h1,h3,h2⟩;exact⟨v',rfl,h2,h1.mono hS,h3⟩):G:=h
theorem Bo2(h:G:=by
 split
 .rename_i hpi;refine⟨hG.1,hG.2.1,hG.2.2.1,hG.2.2.2.1,λk hk _=> ?_⟩;by_cases hk2:k∈sts.map (·.g)
  .obtain⟨x,hx,rfl⟩:=bJ.1 hk2;have hxs:=cA.1 hok3 x.s (bJ.2 ⟨x,hx,rfl⟩);have hanc:Anc l.toArray i x.s:=by
    by_cases his:i=x.s
    .rw[his];exact .self
    .refine wW _ [x.s] (λj hj=> ?_) hxs i (dV.2 ⟨by simpa using hpi,by simpa using his⟩);have:j=x.s:=by simpa using hj
     rw[this];exact .self
   have h2:=(hpre x.s hanc).2;exact h2 x (hs x hx)
  .exact hG.2.2.2.2 k hk hk2
 .exact hG):G:=h
theorem TZ8(h:G:=by
 have hq:=B2;obtain⟨hq0,hq1,hq2,hq3,hq4,-⟩:=hq.cl [0,1,2,3,4];obtain⟨hqf0,hqf1,hqf2,hqf3,hqf4,-⟩:=hq.fl [0,1,2,3,4];go_wp2;refine nP 6 7 39 g6 39 _ _ _ kr rfl rfl (((((hq.set 0 _).set 1 _).set 2 _).set 3 _).set 4 _) underlying39 rfl kr rfl ?_;exact⟨sE,by rw[HE.out];rfl,XB.out.step (((((Chg.setCell _ g6 0 _).trans (Chg.setCell _ g6 1 _)).trans (Chg.setCell _ g6 2 _)).trans (Chg.setCell _ g6 3 _)).trans (Chg.setCell _ g6 4 _)) om,λh=>(by rw[HE.out]at h;cases h),λ_=>rfl⟩):G:=h
theorem Uu1(h:G:=by
 intro f wa hG hp hl;have hE:Ext w9 wa:=hG;have hS:=hE.size;have q73:f 1= .agg #[.bool b,.slice a1 n1 c1,.slice a2 n2 c2]:=mL hp 0 1 rfl rfl (λh=>by cases h);have q80:=mL hp 1 8 rfl rfl (λ_=>hE);change kM _ _ _ f wa Ext _;refine oC #[f 1,f 8] func98 rfl rfl ?_;rw[q73];refine(rP _ _ (vY qs cs0 i) (q*x) R (ky+k) _ ((HR9.out.ext hE).isR HSZR.out.1 om) (q80.1.isR q80.2 om) om).mono ?_;rintro e w' ⟨v',rfl,h1,h3,h2⟩;rw[<-HRH.out]at h1;exact⟨v',rfl,h2,h1.mono hS,HSZR.out.2⟩):G:=h
theorem WE9(h:G:=by
 rename_i hpi;refine⟨hG.1,hG.2.1,hG.2.2.1,hG.2.2.2.1,λk hk _=> ?_⟩;by_cases hk2:k∈sts.map (·.g)
 .obtain⟨x,hx,rfl⟩:=bJ.1 hk2;have hxs:=cA.1 hok3 x.s (bJ.2 ⟨x,hx,rfl⟩);have hanc:Anc l.toArray i x.s:=by
   by_cases his:i=x.s
   .rw[his];exact .self
   .refine wW _ [x.s] (λj hj=> ?_) hxs i (dV.2 ⟨by simpa using hpi,by simpa using his⟩);have:j=x.s:=by simpa using hj
    rw[this];exact .self
  have h2:=(hpre x.s hanc).2;exact h2 x (hs x hx)
 .exact hG.2.2.2.2 k hk hk2):G:=h
theorem dA2(h:G:=by
 obtain⟨hq0,hq1,hq2,hq3,hq4,-⟩:=hq.cl [0,1,2,3,4];obtain⟨hqf0,hqf1,hqf2,hqf3,hqf4,-⟩:=hq.fl [0,1,2,3,4];go_wp2;refine nP 6 7 39 g6 39 _ _ _ kr rfl rfl (((((hq.set 0 _).set 1 _).set 2 _).set 3 _).set 4 _) underlying39 rfl kr rfl ?_;exact⟨sE,by rw[HE.out];rfl,XB.out.step (((((Chg.setCell _ g6 0 _).trans (Chg.setCell _ g6 1 _)).trans (Chg.setCell _ g6 2 _)).trans (Chg.setCell _ g6 3 _)).trans (Chg.setCell _ g6 4 _)) om,λh=>(by rw[HE.out]at h;cases h),λ_=>rfl⟩):G:=h
theorem dO9(h:G:=by
 intro f w10 hG hp;have hz0:=KL hp 11 de;clear hp;have hC:Chg g9 w9 w10:=mV.one hG;obtain⟨b',ad1,m1,e1,ad2,m2,e2,S10,hr10,hrs⟩:=hz0;have X10:=X9.step hC om;have HJ:Hid (CmJ w K R g6 g9 s qs cs0 (i+1) w10):=a8 ⟨X10,HG.out,D9.chg hC om,a9,n9,p9,b',ad1,m1,e1,ad2,m2,e2,S10,TO.chgB HT9.out hC S9 de de,hr10.mono om,hrs⟩;clear hC hG S9 C9 D9 S10 hr10 hrs HR9 HT9 X9 X8 X10;go_wp2;go_roundw
 case rel=>exact ⟨i+1,cd,om,ci om,rfl,HCD2,HSN,HJ⟩
 case measure=>simp [intOf];omega):G:=h
theorem IA7(h:G:=by
 obtain⟨c1,hc1⟩:=ex (c+1:Nat);have hc3:(c:Int)+1=(c1:Int):=om;have HH:=a8 hc1;clear hc1;go_wp2;go_roundw
 case rel=>
  refine⟨c1,r,rfl,rfl,om,om,hr,a8 ⟨.inr ⟨x,y,?_,?_,?_⟩,hF.out.2⟩,hex.trans hE⟩
  .rw[show c1 - 1 - a=c - a by have:=HH.out;omega];exact HX.out.2.2
  .have:=HY.out.2.2;rw[show mid - c1=q - m by have:=HCQ.out;have:=HA.out;have:=HH.out;omega];exact this
  .have:=of_decide_eq_false HR.out.symm;show x.c<=y.c;omega
 case measure=>simp [intOf];omega):G:=h
theorem TH1(h:G:=by
 rw[<-hyy]at hx2;have HYY:=a8 hyy.symm;have hyb:(yy==0)=false:=by simpa using hx2
 have Hwx:=a8 (wfA (z:=x) om om);have HIj:=a8 (HIf.out.ex hEj);clear hx hcx hyy hx2;go_wp2_with fail;refine(nV B 13000 g s _ ns2 wr HIj.out.lg).mono ?_;rw[<-HNL.out];rintro e wt ⟨rfl,et⟩;have hlk:=(HIj.out.map.ext et).look Hwx.out;rw[HYY.out]at hlk;clear HIj hq;go_wp2_with fail;go_roundw
 case rel=>exact ⟨j+1,hjl,ci om,hEj.trans et⟩
 case measure=>simp [intOf];omega):G:=h
theorem YB3(h:G:=by
 refine⟨λ_=> ?_,λh=>by rw[hOK.out]at h;cases h⟩;obtain⟨-,vs,j1,j2,j3,j4⟩:=hH.out;have hL:=LS.of_hold (e:=37) (n:=3) (B:=w.heap.size) (w:=wr) (vs:=vs) (g:=g7) (cap:=i) (rest:=[]) j2 om om om (by rw[j3];simp) (by rw[cF];exact j1);rw[j3]at hL;rw[dS];refine⟨vs,hL,by rw[UA,j3],λj u x hu hx=>j4 j u x hu ?_⟩;have hji:j<i:=by have:=(aH.1 hu).1;omega
 rw[U9 l hji]at hx;simp only;rw[if_pos hji,htm,HM.out,sM];exact hx):G:=h
theorem Zl2(h:G:=by
 intro f w2 hG hp;have hE:Ext w1 w2:=mV.nil hG;have q6:f 35= .bool (((((((((c0&&c1_))&&la))&&wh))&&iw))&&ce):=rM hp 35 de rfl (λh=>by cases h);try simp only[q6]
 clear hp;have X:=e1.trans hE;obtain⟨r,hr⟩:=ex (((((c0&&c1_)&&la)&&wh)&&iw)&&ce);rw[<-hr];have HF:Hid (yS (s,l,x) (s2,m,x2) bs=r):=a8 (by rw[HSP.out,H0,H1,HD.out,hr];simp only[gY]);clear hr HD HSP H0 H1 HCE;go_wp2;go_ret;exact⟨by rw[HF.out]<;>rfl,X⟩):G:=h
theorem Qi2(h:G:=by
 rintro ee w4 ⟨rfl,hc4,M2,hp2,hs2,hH4⟩;have HM2:=a8 (aD hp2 (aD hs2 (show kY g rest w4 (A++(M1++M2)++S)by simpa[aG]using hH4)));have hC4:Chg g w w4:=hC3.trans hc4;clear hp2 hs2 hH4 hc4;have HFN:=a8 (HMG.out M1 M2 HM1.out.1 HM2.out.1 HM1.out.2.1 HM2.out.2.1);have HF2:=a8 HM2.out.2.2;clear HMG HM1 HM2 HIH H1;go_wp2;go_end0;exact⟨rfl,hC4,M1++M2,HFN.out.1,HFN.out.2,by simpa only[aG]using HF2.out⟩):G:=h
theorem UW5(h:G:=by
 have hfin:o6 x y=1:=by
  have:val TK ys<val TK xs:=AR (by rw[nB];omega) dy j (by rw[Sx.out,Sy.out];omega);rw[Hx.out,Hy.out]at this;simp[o6,show¬x<y by omega,show¬x=y by omega]
 go_wp2_with fail;refine((pa' wr).out (hr.ext hex) om om).mono ?_;rintro e w' ⟨rfl,rfl⟩;go_wp2_with fail;refine((pb' wr).out (hr2.ext hex) om om).mono ?_;rintro e w' ⟨rfl,rfl⟩;go_wp2;go_ret;exact⟨oF hfin.symm,hex⟩):G:=h
theorem TK0(h:G:=by
 unfold kM;rw[hgd];unfold Oper.wp;have hrun:(execOp a.eval o).run P w= .ok (.enter F args) w:=by
  subst ha;have h1:fn.name≠ "runtime.NumGoroutine" :=by simpa using hn
  have h2:¬fn.body=none:=by intro h;simp[h]at hb
  simp[execOp,ho,resolve,Deferred.ofValue,Act.eval,invoke,callFunc,hf,h1,h2]
 rw[hrun,Oper.upon_enter];refine hc.mono ?_;rintro e w' ⟨v,rfl,h1,h2⟩;exact⟨v,rfl,h1,h2⟩):G:=h
theorem rr1(h:G:=by
 have hgv:tF (l.take (i+1)) xs=tF (l.take i) xs:=by
  rw[HTK.out,zR];simp only[tF,dY];rw[if_neg (by rw[<-Hnx.out];exact hcc),dY]
 have HGV:=a8 hgv;clear hgv hcc;go_wp2;go_roundw
 case rel=>
  rw[<-hw5];refine⟨i+1,om,ci om,a8 ⟨⟨E5,_,_,_,_,_,_,_,hbx.ext e5,?_,?_⟩,hB0.ext e5⟩⟩
  .rw[HGV.out];exact HQ.out.ext e5
  .rw[HGV.out];have:=HSZ.out;omega
 case measure=>simp [intOf];omega):G:=h
theorem EE1(h:G:=by
 intro f w2 hG hp hl;have hS:w4.heap.size<=w2.heap.size:=hG.2.2.2.1;have q50:=kO hp 0 5 rfl rfl (λ_=>by contradiction);intro hg0;change kM _ _ _ f w2 (Chg _) _;obtain⟨s',hv,hn⟩:=q50;exact mN (P:=prog) _ _ _ (w.heap.size+3) _ _ _ (lJ _:PP _).p rfl rfl rfl hv (show Bx 35 w2 _ _ from hg0.trans B4) kr rfl (xZ rfl hn.oneCell) (λw' h=>⟨s',rfl,hn.chg h om⟩)):G:=h
theorem sG5(h:G:=by
 have hfin:o6 x y= -1:=by
  have:val TK xs<val TK ys:=AR (by rw[nB];omega) dx j (by rw[Sx.out,Sy.out];omega);rw[Hx.out,Hy.out]at this;simp[o6,this]
 go_wp2_with fail;refine((pa' wr).out (hr.ext hex) om om).mono ?_;rintro e w' ⟨rfl,rfl⟩;go_wp2_with fail;refine((pb' wr).out (hr2.ext hex) om om).mono ?_;rintro e w' ⟨rfl,rfl⟩;go_wp2;go_ret;exact⟨oF hfin.symm,hex⟩):G:=h
theorem kV3(h:G:=by
 subst h1;have ht2:Hid (hiV TK xs j=hiV TK ys j):=by show hiV TK xs j=hiV TK ys j;rw[Sx.out,Sy.out]
 go_wp2_with fail;refine((pa' wr).out (hr.ext hex) om om).mono ?_;rintro e w' ⟨rfl,rfl⟩;go_wp2_with fail;refine((pb' wr).out (hr2.ext hex) om om).mono ?_;rintro e w' ⟨rfl,rfl⟩;go_wp2;go_roundw
 case rel=>exact ⟨j,om,rfl,ht2,hex⟩
 case measure=>simp [intOf]):G:=h
theorem MW0(h:G:=by
 intro f w2 hG hp hl;have hE:Ext w1 w2:=hG;have hS:=hE.size;have q11:=tE hp 0 6 rfl rfl rfl;have q13:=tE hp 1 8 rfl rfl rfl;change kM _ _ _ f w2 Ext _;refine oC #[f 6,f 8] func63 rfl rfl ?_;rw[q11,q13];refine(sB _ _ y.num x.den _ (zy.ext (e1.trans hE)) (tx'.ext (e1.trans hE)) om om).mono ?_;rintro e w' ⟨v',rfl,h1,h2⟩;exact⟨v',rfl,h2,h1.mono hS⟩):G:=h
theorem Kz6(h:G:=by
 intro f w7 hG hp hl;have hE:Ext w6 w7:=hG;have hS:=hE.size;have q55:=lO hp 0 6 rfl rfl;obtain⟨tt,tv,tc,tq⟩:=q55;change kM _ _ _ f w7 Ext _;exact lH (P:=prog) 32 67 1 4 _ [tmv tt] rfl rfl underlying32 kr kr (by simp only[Act.eval];exact congrArg (λz=> [(0,z)]) tv) rfl om om om (nK [tt]).size (λw' he hb=>⟨_,tt,hS,rfl,hb,tc,tq.ext he⟩)):G:=h
theorem gf1(h:G:=by
 intro f w2 hG hp hl;have hE:Ext w1 w2:=hG;have hS:=hE.size;have q6:=tE hp 0 1 rfl rfl rfl;have q8:=tE hp 1 3 rfl rfl rfl;change kM _ _ _ f w2 Ext _;refine oC #[f 1,f 3] func63 rfl rfl ?_;rw[q6,q8];refine(sB _ _ x.num y.den _ (zx.ext (e1.trans hE)) (ty'.ext (e1.trans hE)) om om).mono ?_;rintro e w' ⟨v',rfl,h1,h2⟩;exact⟨v',rfl,h2,h1.mono hS⟩):G:=h
theorem XT5(h:G:=by
 intro f w2 hG hp hl;have hE:Ext w1 w2:=hG;have hS:=hE.size;have qg:=kO hp 0 25 rfl rfl (λh=>by cases h);refine kS (p:=(lV ((1:Int):Rat) 1:PP _).p) rfl (lS qg) ?_;intro hg0;clear qg;change kM _ _ _ f w2 Ext _;refine oC #[.int .i64 1] func41 rfl rfl ?_;refine(mT 1 _ om om).mono ?_;rintro e w' ⟨v',rfl,h1,h2⟩;exact⟨v',rfl,h2,h1.mono hS,D3⟩):G:=h
theorem Wi7(h:G:=by
 obtain⟨x,hx,rfl⟩:=bJ.1 hk2;have hxs:=cA.1 hok3 x.s (bJ.2 ⟨x,hx,rfl⟩);have hanc:Anc l.toArray i x.s:=by
  by_cases his:i=x.s
  .rw[his];exact .self
  .refine wW _ [x.s] (λj hj=> ?_) hxs i (dV.2 ⟨by simpa using hpi,by simpa using his⟩);have:j=x.s:=by simpa using hj
   rw[this];exact .self
 have h2:=(hpre x.s hanc).2;exact h2 x (hs x hx)):G:=h
theorem Ef1(h:G:=by
 intro f w2 hG hp hl;have hE:Ext w1 w2:=hG;have hS:=hE.size;have q9:=tE hp 0 4 rfl rfl rfl;have q11:=kO hp 1 6 rfl rfl (λ_=>hE);change kM _ _ _ f w2 Ext _;refine oC #[f 4,f 6] func147 rfl rfl ?_;rw[q9];refine(yM _ _ ny dy dx _ (Qy.out.ext (e1.trans hE)) q11 om).mono ?_;rintro e w' ⟨v',rfl,h1,h2⟩;exact⟨v',rfl,h2,h1.mono hS⟩):G:=h
theorem JU9(h:G:=by
 intro f w7 hG hp hl;have hE:Ext w6 w7:=hG;have hS:=hE.size;have q53:f 4= .agg #[.bool b',.slice a1 n1 c1,.slice a2 n2 c2]:=lO hp 0 4 rfl rfl;change kM _ _ _ f w7 Ext _;refine oC #[f 4] func90 rfl rfl ?_;rw[q53];refine(pL _ xq k _ (HX.out.2.ext (E56.trans hE)) om).mono ?_;rintro e w' ⟨v',rfl,h1,h2⟩;exact⟨v',rfl,h2,h1.mono hS⟩):G:=h
theorem oS6(h:G:=by
 refine⟨oL,oL,oL,?_,oL,oL,oL,?_,oL,trivial⟩
 .intro f w2 hG hp hl;have hE:Ext wr w2:=hG;have q19:=tE hp 0 2 rfl rfl rfl;have hcell:=hE.cell hcx;simp only[kM];go_simp;exact⟨_,rfl,rE,rfl⟩
 .intro f w2 hG hp hl;have hE:Ext wr w2:=hG;have q23:=tE hp 0 6 rfl rfl rfl;have hcell:=hE.cell hcy;simp only[kM];go_simp;exact⟨_,rfl,rE,rfl⟩):G:=h
theorem AE7(h:G:=by
 intro f w2 hG hp hl;have hE:Ext w1 w2:=hG;have hS:=hE.size;have q5:=tE hp 0 0 rfl rfl rfl;have q7:=kO hp 1 2 rfl rfl (λ_=>hE);change kM _ _ _ f w2 Ext _;refine oC #[f 0,f 2] func147 rfl rfl ?_;rw[q5];refine(yM _ _ nx dx dy _ (Qx.out.ext (e1.trans hE)) q7 om).mono ?_;rintro e w' ⟨v',rfl,h1,h2⟩;exact⟨v',rfl,h2,h1.mono hS⟩):G:=h
theorem Lt9(h:G:=by
 have e1:Ext w w1:=⟨hG.1,hG.2.1,hG.2.2.1,hG.2.2.2.1,λi hi _=>by
  by_cases hig:i=g
  .rw[hig];exact hg
  .rw[<-hR.heap (cD hi hG.2.2.2.1) hig];exact hE.heap hi⟩
 refine⟨e1,World.grownBy.os hR,World.grownBy.tape hR,World.grownBy.output hR,hR.size,λi hi _=> ?_⟩;by_cases hig:i=g
 .rw[hig,hE.heap hgl,hg]
 .exact hR.heap hi hig):G:=h
theorem tH8(h:G:=by
 exact⟨_,rfl,HQ2.chgN (Chg.trans (Chg.trans (Chg.setCell _ w.heap.size 0 _) (Chg.setCell _ w.heap.size 1 _)) (Chg.setCell _ w.heap.size 2 _)) hB0 (((hb.set 0 _).set 1 _).set 2 _) de de,HSZ.out,hE0.step (Chg.trans (Chg.trans (Chg.setCell _ w.heap.size 0 _) (Chg.setCell _ w.heap.size 1 _)) (Chg.setCell _ w.heap.size 2 _)) om⟩):G:=h
theorem Pn1(h:G:=by
 intro f w2 hG hp hl;have q158:=tE hp 0 0 rfl rfl rfl;have q164:=tE hp 1 6 rfl rfl rfl;have q168:=tE hp 2 10 rfl rfl rfl;change kM _ _ _ f w2 Ext _;refine A4 (P:=prog) _ _ _ _ #[f 6,f 10] func96 kr kr rfl rfl q158 kr ?_;rw[q164,q168];refine(vM y x _).mono ?_;rintro e w' ⟨z,rfl,h1,h2⟩;exact⟨_,rfl,h2,z,rfl,h1⟩):G:=h
theorem Iq4(h:G:=by
 obtain⟨g,t,cs,cs',_,ht1,ht2,hno,hb,_,hch⟩:=hc;rcases h with h |⟨g',cur,h1,h2,h3,h4⟩
 .exact .inl h
 .refine .inr ⟨g',cur,h1,h2,hch.blk h3 ?_,h4⟩;rintro rfl;unfold Bx at hb;rw[h3]at hb;simp only[Option.some.injEq,Obj.cells.injEq]at hb;rcases he with he |he
  .exact ht1 (hb.2.1▸he)
  .exact ht2 (hb.2.1▸he)):G:=h
theorem IZ4(h:G:=by
 go_roundw
 case rel=>
  have hA:=(Ext.refl wr).alloc (.cells #[.bool b,.slice a1 n1 c1,.slice a2 n2 c2] 37);refine⟨vs.length+1,some ⟨g',0,none⟩,cap2',om,sm,rfl,a8 ?_,(hE0.trans hA).stepG hg7 HLS.out.ge⟩;rw[HTK.out];exact OL.app (w:=wr) HV.out.1 HV.out.2 hls7 (λu y h=>h) HRX.out
 case measure=>simp [intOf];omega):G:=h
theorem PH3(h:G:=by
 refine⟨c1,r,rfl,rfl,om,om,hr,a8 ⟨.inr ⟨x,y,?_,?_,?_⟩,hF.out.2⟩,hex.trans hE⟩
 .rw[show c1 - 1 - a=c - a by have:=HH.out;omega];exact HX.out.2.2
 .have:=HY.out.2.2;rw[show mid - c1=q - m by have:=HCQ.out;have:=HA.out;have:=HH.out;omega];exact this
 .have:=of_decide_eq_false HR.out.symm;show x.c<=y.c;omega):G:=h
theorem Xy6(h:G:=by
 have hc0:=(hcell wr (HE1.out.trans hE)).1;clear hcell hr;rcases Bool.eq_false_or_eq_true (r.1.toList==s.toList)with hx |hx
 .go_wp2;go_ret;first |exact ⟨_,rfl,HE1.out.trans hE⟩ |exact ⟨⟨_,rfl⟩,HE1.out.trans hE⟩
 .go_wp2;go_roundw
  case rel=>exact ⟨i+1,om,ci om,hE⟩
  case measure=>simp [intOf];omega):G:=h
theorem yF5(h:G:=by
 go_wp2;go_roundw
 case rel=>
  refine⟨s,c,rfl,rfl,hs,hsc,om,a8 ⟨hF.out.1,.inr ⟨y,x,?_,HX.out.2.2,?_⟩⟩,hex.trans hE⟩
  .have:=HY.out.2.2;rw[show mid - 1 - c=q - m by have:=HCQ.out;have:=HA.out;omega];exact this
  .have:=of_decide_eq_true HR.out.symm;show y.c<=x.c;omega
 case measure=>simp [intOf];omega):G:=h
theorem yq8(h:G:=by
 intro f wa hG hp hl;have hE:Ext w8 wa:=hG;have q64:f 2= .pointer (some ⟨gq,offq+i*3,none⟩):=mL hp 0 2 rfl rfl (λh=>by cases h);change kM _ _ _ f wa Ext _;exact kW (P:=prog) _ _ gq (offq+i*3) _ _ rfl rfl q64 (λj v h=>HYC.out _ (X8.trans hE) j v h) underlying37 rfl kr rfl):G:=h
theorem sD8(h:G:=by
 intro f wa hG hp hl;have hE:Ext w9 wa:=hG;have q76:f 4= .pointer (some ⟨gq,offq+i*3,none⟩):=mL hp 0 4 rfl rfl (λh=>by cases h);change kM _ _ _ f wa Ext _;exact kW (P:=prog) _ _ gq (offq+i*3) _ _ rfl rfl q76 (λj v h=>HYC.out _ (X9.trans hE) j v h) underlying37 rfl kr rfl):G:=h
theorem Rj2(h:G:=by
 go_wp2_with fail;refine(kept w5 E5).mono ?_;rintro e w6 ⟨rfl,e6⟩;have HF:Hid (vX (s,l,x) (s2,m,x2)=rN s2 x x2):=a8 (by rw[HD1.out,HDD.out];rfl);obtain⟨kq,hkq⟩:=ex (rN s2 x x2);rw[<-hkq]at HF ⊢;clear hkq HD1 HDD;go_wp2;go_ret;exact⟨by rw[HF.out]<;>rfl,E5.trans e6⟩):G:=h
theorem rD8(h:G:=by
 have HF:Hid (yH c s.nn=false):=a8 (by unfold yH qR;rw[decide_eq_false om];rfl);have hq3:=B3.out.q5;go_wp2;refine nP 4 5 39 (w.heap.size+1+1) 39 _ _ _ kr rfl rfl (((((B3.out.set 0 _).set 1 _).set 2 _).set 3 _).set 4 _) underlying39 rfl kr rfl ?_;exact FIN.out _ rE HF.out):G:=h
theorem Gu5(h:G:=by
 have hs:i.size=1:=by simpa[hq]using hi
 have hc:(Value.slice ad n c).cells=#[.slice ad n c]:=rfl;have hset:cur.set off (.slice ad n c)=cur.take off++ .slice ad n c::cur.drop (off+1):=by rw[gX,if_pos hfit]
 simp only[bZ]at hst;simp[storeVar,sizeOf,typeInfo,hq,hc,hs,hset,hst]):G:=h
theorem UL8(h:G:=by
 have Hll:=a8 (show l.length<=8796093022208 by rw[Hi.out.1];omega);have Hfin:=a8 hfin;clear hfin;go_wp2_with fail;refine(xQ _ l _ hfr.isL Hi.out.2.1 Hll.out).mono ?_;rw[Hfin.out];rintro e w2 ⟨v',rfl,h5,hext2⟩;go_wp2;go_ret;exact⟨_,rfl,h5.mono hsz,hex.trans hext2⟩):G:=h
theorem ZT0(h:G:=by
 intro f wa hG hp hl;have hE:Ext w9 wa:=hG;have q78:f 6= .pointer (some ⟨wr.heap.size,2,none⟩):=mL hp 0 6 rfl rfl (λh=>by cases h);have hbx:=C9.ext hE;obtain⟨hcell0,hcell1,hcell2,hcell3,hcell4,-⟩:=hbx.cl [0,1,2,3,4];simp only[kM];go_simp;exact⟨_,rfl,rE,rfl⟩):G:=h
theorem aX1(h:G:=by
 intro f w7 hG hp hl;have q51:f 2= .int .i64 xc:=lO hp 0 2 rfl rfl;have q54:=lO hp 1 5 rfl rfl;obtain⟨tb,ta1,tn1,tc1,ta2,tn2,tc2,tv,tq⟩:=FrQ.opn (q54);change kM _ _ _ f w7 Ext _;simp only[kM];go_simp;exact⟨_,rfl,rE,⟨xc,tb,ta1,tn1,tc1,ta2,tn2,tc2⟩,rfl,rfl,tq⟩):G:=h
theorem eL6(h:G:=by
 exact⟨_,rfl,⟨_,(by first |rfl |simp_all),(Hn.out.chg (Chg.trans (Chg.setCell _ (w.heap.size+1) 0 _) (Chg.setCell _ (w.heap.size+1) 1 _)) om).mono om⟩,(e1.trans hext).step (Chg.trans (Chg.setCell _ (w.heap.size+1) 0 _) (Chg.setCell _ (w.heap.size+1) 1 _)) om⟩):G:=h
theorem GW6(h:G:=by
 have hA:=(Ext.refl wr).alloc (.cells #[.bool b,.slice a1 n1 c1,.slice a2 n2 c2] 37);refine⟨vs.length+1,some ⟨g',0,none⟩,cap2',om,sm,rfl,a8 ?_,(hE0.trans hA).stepG hg7 HLS.out.ge⟩;rw[HTK.out];exact OL.app (w:=wr) HV.out.1 HV.out.2 hls7 (λu y h=>h) HRX.out):G:=h
theorem iB8(h:G:=by
 intro hg0;clear qg;have q38:f 26= .pointer (some ⟨(w.heap.size+1),2,none⟩):=(kO hp 0 26 rfl rfl (λh=>by cases h)).1 hg0;have hbx:=b2_.ext hE;obtain⟨hcell0,hcell1,hcell2,hcell3,hcell4,-⟩:=hbx.cl [0,1,2,3,4];simp only[kM];go_simp;exact⟨_,rfl,rE,rfl⟩):G:=h
theorem mu3(h:G:=by
 intro f wa hG hp hl;have hE:Ext w9 wa:=hG;have q72:f 0= .pointer (some ⟨g9,2,none⟩):=mL hp 0 0 rfl rfl (λh=>by cases h);have hbx:=S9.ext hE;obtain⟨hcell0,hcell1,hcell2,hcell3,hcell4,-⟩:=hbx.cl [0,1,2,3,4];simp only[kM];go_simp;exact⟨_,rfl,rE,rfl⟩):G:=h
theorem vh1(h:G:=by
 intro f w2 hG hp hl;have hE:Ext w1 w2:=hG;have q10:=tE hp 0 5 rfl rfl rfl;change kM _ _ _ f w2 Ext _;refine oC #[f 5] func141 rfl rfl ?_;rw[q10];refine(nW _ nx dx _ (Qx.out.ext (e1.trans hE))).mono ?_;rintro e w' ⟨v',rfl,h1,h2⟩;exact⟨v',rfl,h2,h1⟩):G:=h
theorem Dj5(h:G:=by
 intro f w2 hG hp hl;have qg:=kO hp 1 25 rfl rfl (λh=>by cases h);refine kS (p:=(kL (.bool ce):PP _).p) rfl (lS qg) ?_;intro hg0;clear qg;have q44:f 32= .int .i64 z:=(kO hp 0 32 rfl rfl (λh=>by cases h)).1 hg0;simp only[kM];go_simp;exact⟨_,rfl,rE,rfl⟩):G:=h
theorem Hr7(h:G:=by
 intro f w2 hG hp hl;have hE:Ext w1 w2:=hG;have q6:=tE hp 0 1 rfl rfl rfl;change kM _ _ _ f w2 Ext _;refine oC #[f 1] func141 rfl rfl ?_;rw[q6];refine(nW _ ny dy _ (Qy.out.ext (e1.trans hE))).mono ?_;rintro e w' ⟨v',rfl,h1,h2⟩;exact⟨v',rfl,h2,h1⟩):G:=h
theorem sX4(h:G:=by
 intro hg0;clear qg;have q33:f 21= .pointer (some ⟨w.heap.size,2,none⟩):=(kO hp 0 21 rfl rfl (λh=>by cases h)).1 hg0;have hbx:=b1_.ext hE;obtain⟨hcell0,hcell1,hcell2,hcell3,hcell4,-⟩:=hbx.cl [0,1,2,3,4];simp only[kM];go_simp;exact⟨_,rfl,rE,rfl⟩):G:=h
theorem vf6(h:G:=by
 intro hg0;clear qg;have q40:f 28= .pointer (some ⟨w.heap.size,2,none⟩):=(kO hp 0 28 rfl rfl (λh=>by cases h)).1 hg0;have hbx:=b1_.ext hE;obtain⟨hcell0,hcell1,hcell2,hcell3,hcell4,-⟩:=hbx.cl [0,1,2,3,4];simp only[kM];go_simp;exact⟨_,rfl,rE,rfl⟩):G:=h
theorem Ku2(h:G:=by
 have hz0:w2.cell? ⟨gx,ox+i*3,none⟩=some (.bool b):=HXC.out _ (e1.trans (hEl.trans hE)) 0 _ rfl;have hz1:=HXC.out _ (e1.trans (hEl.trans hE)) 1 _ rfl;have hz2:=HXC.out _ (e1.trans (hEl.trans hE)) 2 _ rfl;simp only[kM];go_simp;exact⟨_,rfl,rE,rfl⟩):G:=h
theorem zW3(h:G:=by
 clear hp;have hz1:=hz0.mono (show w.heap.size<=_ by omega);obtain⟨s',t',hvv,hnn,hmm⟩:=hz0
 cases hvv
 go_wp2;refine l8 4 37 (w.heap.size+2) 37 _ _ kr rfl hbx0 underlying37 rfl kr rfl ?_;rw[Hsum.out];exact⟨_,rfl,hz1,Hsz.out,e1.stepS hG sm⟩):G:=h
theorem pb8(h:G:=by
 have HW10:=a8 (HW9.out.trans hI);simp only[q18];clear hp hI q18
 cases b
 case true=>
  go_wp2;go_ret;exact⟨_,rfl,HE1.out.trans HX10.out⟩
 case false=>
  go_wp2;go_roundw
  case rel=>exact ⟨i+1,om,ci om,HX10.out⟩
  case measure=>simp [intOf];omega):G:=h
theorem PH9(h:G:=by
 intro f w2 hG hp hl;have q45:=tE hp 0 0 rfl rfl rfl;intro hg0;change kM _ _ _ f w2 (Chg _) _;exact mN (P:=prog) _ _ _ (w.heap.size+2) _ _ _ (kL _:PP _).p rfl rfl rfl q45 (show Bx 35 w2 _ _ from hg0.trans B3) kr rfl (xZ rfl O10) (λw' h=>rfl)):G:=h
theorem tk5(h:G:=by
 refine IE 4 5 6 35 35 (w.heap.size+2) (w.heap.size+3) 35 35 _ _ _ _ _ kr rfl rfl q6 hbx0 hbx1 underlying35 rfl kr underlying35 rfl kr rfl ?_;refine⟨_,_,rfl,?_,?_,E.stepS hG sm⟩
 .rw[hx0];exact(Hq.chgS hG sm).mono om
 .rw[hm];exact hz2):G:=h
theorem tV1(h:G:=by
 refine⟨s,c,rfl,rfl,hs,hsc,om,a8 ⟨hF.out.1,.inr ⟨y,x,?_,HX.out.2.2,?_⟩⟩,hex.trans hE⟩
 .have:=HY.out.2.2;rw[show mid - 1 - c=q - m by have:=HCQ.out;have:=HA.out;omega];exact this
 .have:=of_decide_eq_true HR.out.symm;show y.c<=x.c;omega):G:=h
theorem pf2(h:G:=by
 intro f w2 hG hp hl;have hE:Ext wr w2:=hG;have q169:=kO hp 0 11 rfl rfl (λ_=>hE);obtain⟨z,hz,hzz⟩:=q169;simp only[kM];go_simp;exact⟨_,rfl,rE,congrArg Value.bool (by first | (rw[HR.out];done) | (rw[HR.out];exact decide_eq_decide.2 hzz))⟩):G:=h
theorem CO8(h:G:=by
 change kM _ _ _ f w7 Ext _;exact lH (P:=prog) 32 67 1 4 _ [tmv tt] rfl rfl underlying32 kr kr (by simp only[Act.eval];exact congrArg (λz=> [(0,z)]) tv) rfl om om om (nK [tt]).size (λw' he hb=>⟨_,tt,hS,rfl,hb,tc,tq.ext he⟩)):G:=h
theorem aw6(h:G:=by
 intro f w7 hG hp hl;have hE:Ext w6 w7:=hG;have q52:f 3= .pointer (some ⟨wr.heap.size,1,none⟩):=lO hp 0 3 rfl rfl;have hbx:=b6.ext hE;obtain⟨hcell0,hcell1,hcell2,hcell3,-⟩:=hbx.cl [0,1,2,3];simp only[kM];go_simp;exact⟨_,rfl,rE,rfl⟩):G:=h
theorem oB9(h:G:=by
 have hC4:Chg g w w3:=hC3;have HFN:=a8 (HMG.out M1 M2 HM1.out.1 HM2.out.1 HM1.out.2.1 HM2.out.2.1);have HF2:=a8 HM2.out.2.2;clear HMG HM1 HM2 HIH H1;go_wp2;go_end0;exact⟨rfl,hC4,M1++M2,HFN.out.1,HFN.out.2,by simpa only[aG]using HF2.out⟩):G:=h
theorem qB9(h:G:=by
 intro x hx y hy h;simp only[aS,bI,or_false]at hx hy;rcases hx with rfl |rfl<;>rcases hy with rfl |rfl
 .exact absurd rfl h
 .show(w.heap.size+2)≠(w.heap.size+3);omega
 .show(w.heap.size+3)≠(w.heap.size+2);omega
 .exact absurd rfl h):G:=h
theorem sj2(h:G:=by
 clear hh hc;go_wp2_with fail;refine(hmul.out w1).mono ?_;rintro e w' ⟨rfl,rfl⟩;go_wp2_with fail;go_round
 case rel=>exact ⟨qq - 1,rr+v1,by go_num,by go_num,by rw[lX];omega,by rw[lX];omega,Hs⟩
 case measure=>simp [intOf];omega):G:=h
theorem XL2(h:G:=by
 clear hp;have hz1:=hz0.mono (show w.heap.size<=_ by omega);obtain⟨s',t',hvv,hnn,hmm⟩:=hz0
 cases hvv
 go_wp2;refine l8 2 37 (w.heap.size+1) 37 _ _ kr rfl hbx0 underlying37 rfl kr rfl ?_;exact⟨_,rfl,hz1,e1.stepS hG sm⟩):G:=h
theorem KH9(h:G:=by
 intro f wa hG hp hl;have q62:f 0= .slice (some ⟨gq,offq,none⟩) n capq:=mL hp 0 0 rfl rfl (λh=>by cases h);have q63:f 1= .int .i64 (i:Int):=mL hp 1 1 rfl rfl (λh=>by cases h);simp only[kM];go_simp;exact⟨_,rfl,rE,rfl⟩):G:=h
theorem UF0(h:G:=by
 intro f wa hG hp hl;have q74:f 2= .slice (some ⟨gq,offq,none⟩) n capq:=mL hp 0 2 rfl rfl (λh=>by cases h);have q75:f 3= .int .i64 (i:Int):=mL hp 1 3 rfl rfl (λh=>by cases h);simp only[kM];go_simp;exact⟨_,rfl,rE,rfl⟩):G:=h
theorem ZK4(h:G:=by
 subst hjl;have hjj:¬((j:Int)<(j:Int)):=om;have HIz:=a8 (HIf.out.ex hEj);clear hEj HIf HATN HIN HLL;go_wp2_with fail;go_roundw
 case rel=>exact ⟨i+1,hv,hin,rfl,ci om,a8 ⟨_,_,_,HIz.out⟩⟩
 case measure=>simp [intOf];omega):G:=h
theorem NG7(h:G:=by
 intro f w2 hG hp hl;have hE:Ext wr w2:=hG;have hS:=hE.size;have q160:=tE hp 0 2 rfl rfl rfl;have q161:=tE hp 1 3 rfl rfl rfl;simp only[kM];go_simp;first
 |exact ⟨_,rfl,rE,rfl⟩
 |exact ⟨_,rfl,rE,ci (cC _ ⟨om,om⟩)⟩):G:=h
theorem oj2(h:G:=by
 intro f w2 hG hp hl;have qg:=kO hp 0 25 rfl rfl (λh=>by cases h);refine kS (p:=(kL (.pointer (some ⟨(w.heap.size+1),2,none⟩)):PP _).p) rfl (lS qg) ?_;intro hg0;clear qg;simp only[kM];go_simp;exact⟨_,rfl,rE,rfl⟩):G:=h
theorem Wq3(h:G:=by
 intro f w2 hG hp hl;have qg:=kO hp 0 3 rfl rfl (λh=>by cases h);refine kS (p:=(kL (.pointer (some ⟨(w.heap.size+1),0,none⟩)):PP _).p) rfl (lS qg) ?_;intro hg0;clear qg;simp only[kM];go_simp;exact⟨_,rfl,rE,rfl⟩):G:=h
theorem Ia2(h:G:=by
 simp only[hx]at hg;have h0:=(hpre i .self).2 x hx;exact kM.mono (λw' h=>by simp only[hx];exact⟨h,h0⟩) (λv w' _ h=>⟨by simp only[hx];exact h,trivial⟩) (λh=>⟨by simp only[hx];exact h,trivial⟩) (hg h0)):G:=h
theorem xf9(h:G:=by
 intro f w2 hG hp hl;have qg:=kO hp 0 13 rfl rfl (λh=>by cases h);refine kS (p:=(kL (.pointer (some ⟨w.heap.size,1,none⟩)):PP _).p) rfl (lS qg) ?_;intro hg0;clear qg;simp only[kM];go_simp;exact⟨_,rfl,rE,rfl⟩):G:=h
theorem CP1(h:G:=by
 intro f w2 hG hp hl;have qg:=kO hp 0 20 rfl rfl (λh=>by cases h);refine kS (p:=(kL (.pointer (some ⟨w.heap.size,2,none⟩)):PP _).p) rfl (lS qg) ?_;intro hg0;clear qg;simp only[kM];go_simp;exact⟨_,rfl,rE,rfl⟩):G:=h
theorem Yt7(h:G:=by
 intro f w2 hG hp hl;have qg:=kO hp 0 25 rfl rfl (λh=>by cases h);refine kS (p:=(kL (.pointer (some ⟨w.heap.size,2,none⟩)):PP _).p) rfl (lS qg) ?_;intro hg0;clear qg;simp only[kM];go_simp;exact⟨_,rfl,rE,rfl⟩):G:=h
theorem cl1(h:G:=by
 intro f w2 hG hp hl;have hE:Ext wr w2:=hG;have q163:=tE hp 0 5 rfl rfl rfl;change kM _ _ _ f w2 Ext _;exact kW (P:=prog) _ _ g (q*4) _ _ rfl rfl q163 (λj v h=>HCq.out _ hE j v h) underlying67 rfl kr rfl):G:=h
theorem yr0(h:G:=by
 intro f w2 hG hp hl;have hE:Ext wr w2:=hG;have q167:=tE hp 0 9 rfl rfl rfl;change kM _ _ _ f w2 Ext _;exact kW (P:=prog) _ _ g (c*4) _ _ rfl rfl q167 (λj v h=>HCc.out _ hE j v h) underlying67 rfl kr rfl):G:=h
theorem Lr8(h:G:=by
 obtain⟨hv,hB,hL⟩:=T1.out;have bO':=bO;go_wp2;rw[<-hw1];refine rX 6 71 (w.heap.size+2) 71 _ 39 kr rfl bO underlying71 rfl ?_;exact⟨_,rfl,by rw[HV.out];exact OL.nil _ _ _ _ _,λ_=>rfl,ea.trans E1.out⟩):G:=h
theorem ie3(h:G:=by
 intro f wa hG hp hl;have hE:Ext w8 wa:=hG;have q66:f 4= .pointer (some ⟨wr.heap.size,1,none⟩):=mL hp 0 4 rfl rfl (λh=>by cases h);have hcell:=(C8.ext hE).cell 1;simp only[kM];go_simp;exact⟨_,rfl,rE,rfl⟩):G:=h
theorem Za0(h:G:=by
 unfold kM;rw[hgd];unfold Oper.wp execOp;simp only[ho,hx,hy,Instr.storeAt,Instr.sureAddr,Sem.run_bind,Sem.run_pure,Result.andThen_ok,hrun];exact⟨_,rfl,Chg.setRow w g _,h _ (Chg.setRow w g _) (Bx.setRow hb _) _⟩):G:=h
theorem wX1(h:G:=by
 refine .inr ⟨g',cur,h1,h2,hch.blk h3 ?_,h4⟩;rintro rfl;unfold Bx at hb;rw[h3]at hb;simp only[Option.some.injEq,Obj.cells.injEq]at hb;rcases he with he |he
 .exact ht1 (hb.2.1▸he)
 .exact ht2 (hb.2.1▸he)):G:=h
theorem jj3(h:G:=by
 exact mN (P:=prog) _ _ _ (w.heap.size+1) _ _ _ (nC _:PP _).p rfl rfl rfl hv (show Bx 37 w2 _ _ from hg0.trans b2) kr rfl (yA rfl hn.oneCell hm.oneCell) (λw' h=>⟨s',t',rfl,hn.chg h om,hm.chg h om⟩)):G:=h
theorem uN7(h:G:=by
 exact mN (P:=prog) _ _ _ (w.heap.size+2) _ _ _ (nC _:PP _).p rfl rfl rfl hv (show Bx 37 w2 _ _ from hg0.trans b3) kr rfl (yA rfl hn.oneCell hm.oneCell) (λw' h=>⟨s',t',rfl,hn.chg h om,hm.chg h om⟩)):G:=h
theorem We9(h:G:=by
 exact mN (P:=prog) _ _ _ (w.heap.size+2) _ _ _ (sZ _:PP _).p rfl rfl rfl hv (show Bx 63 w2 _ _ from hg0.trans b3) kr rfl (yA rfl hn.oneCell hm.oneCell) (λw' h=>⟨s',t',rfl,hn.chg h om,hm.chg h om⟩)):G:=h
theorem Oy4(h:G:=by
 clear hcc;go_wp2;go_roundw
 case rel=>
  refine⟨i+1,om,ci om,a8 ⟨⟨hE0,_,_,_,_,_,_,_,hbx,?_,?_⟩,hB0⟩⟩
  .rw[HGV.out];exact HQ.out
  .rw[HGV.out];have:=HSZ.out;omega
 case measure=>simp [intOf];omega):G:=h
theorem BK6(h:G:=by
 intro S f wz hI hp hl hS;have q:f 1= .string r.1:=hp.1 rfl trivial;refine oC (P:=prog) #[f 1] func29 rfl rfl ?_;rw[q];exact(wQ r.1 wz HOKr.out.2).mono λe w' ⟨b,h1,h2⟩=>⟨_,h1,h2,b,rfl⟩):G:=h
theorem in9(h:G:=by
 intro f wa hG hp hl;have hE:Ext w8 wa:=hG;have q68:f 6= .pointer (some ⟨g9,1,none⟩):=mL hp 0 6 rfl rfl (λh=>by cases h);have hcell:=(S8.ext hE).cell 1;simp only[kM];go_simp;exact⟨_,rfl,rE,rfl⟩):G:=h
theorem vH0(h:G:=by
 intro hg0;clear qg;have q16:f 4= .pointer (some ⟨(w.heap.size+1),0,none⟩):=(kO hp 0 4 rfl rfl (λh=>by cases h)).1 hg0;have hcell:=(b2_.ext hE).cell 0;simp only[kM];go_simp;exact⟨_,rfl,rE,rfl⟩):G:=h
theorem RM0(h:G:=by
 rw[q3,q4];refine(zZ 4 4 20 _ _ pS [1] wz (HPV.out _ (HE3.out.trans hI.1)) (HX.out _ (HE3.out.trans hI.1)) de de de).mono ?_;rw[XE];rintro e w' ⟨v',rfl,h1, -,h3⟩;exact⟨_,rfl,h3,h1.mono hI.1.size⟩):G:=h
theorem Bb1(h:G:=by
 go_wp2;go_roundw
 case rel=>
  refine⟨i+1,om,ci om,a8 ⟨⟨E6,_,_,_,_,_,_,_,hbx0,?_,?_⟩,B06⟩⟩
  .rw[HGV.out];exact Hq6.out.mono hsz6
  .rw[HGV.out];exact Z6.out
 case measure=>simp [intOf];omega):G:=h
theorem yR4(h:G:=by
 intro hg0;clear qg;have q26:f 14= .pointer (some ⟨w.heap.size,1,none⟩):=(kO hp 0 14 rfl rfl (λh=>by cases h)).1 hg0;have hcell:=(b1_.ext hE).cell 1;simp only[kM];go_simp;exact⟨_,rfl,rE,rfl⟩):G:=h
theorem io8(h:G:=by
 intro f w2 hG hp hl;have q25:=tE hp 0 13 rfl rfl rfl;have q30:=kO hp 1 18 rfl rfl (λh=>by cases h);change kM _ _ _ f w2 Ext _;exact pI (P:=prog) _ _ rfl rfl q25 (λh=>q30.1 (by rw[h])) rfl):G:=h
theorem Mg5(h:G:=by
 intro f w2 hG hp hl;have q32:=tE hp 0 20 rfl rfl rfl;have q35:=kO hp 1 23 rfl rfl (λh=>by cases h);change kM _ _ _ f w2 Ext _;exact pI (P:=prog) _ _ rfl rfl q32 (λh=>q35.1 (by rw[h])) rfl):G:=h
theorem iX3(h:G:=by
 intro f w2 hG hp hl;have q37:=tE hp 0 25 rfl rfl rfl;have q45:=kO hp 1 33 rfl rfl (λh=>by cases h);change kM _ _ _ f w2 Ext _;exact pI (P:=prog) _ _ rfl rfl q37 (λh=>q45.1 (by rw[h])) rfl):G:=h
theorem Bw1(h:G:=by
 intro f w2 hG hp hl;have q20:=tE hp 0 8 rfl rfl rfl;have q23:=kO hp 1 11 rfl rfl (λh=>by cases h);change kM _ _ _ f w2 Ext _;exact pI (P:=prog) _ _ rfl rfl q20 (λh=>q23.1 (by rw[h])) rfl):G:=h
theorem iv4(h:G:=by
 intro f w2 hG hp hl;have q15:=tE hp 0 3 rfl rfl rfl;have q18:=kO hp 1 6 rfl rfl (λh=>by cases h);change kM _ _ _ f w2 Ext _;exact pI (P:=prog) _ _ rfl rfl q15 (λh=>q18.1 (by rw[h])) rfl):G:=h
theorem Vo6(h:G:=by
 have:qq*v0<=4294967296*4294967296 - 1:=by
  have:=cW (show qq<=4294967295 by omega) (show v0<=4294967295 by omega);omega
 refine⟨qq*v0,?_,rfl⟩;rw[<-cL];generalize qq*v0=z at*;exact dJ _ om):G:=h
theorem LF2(h:G:=by
 intro f w7 hG hp hl;have hE:Ext w6 w7:=hG;have q50:f 1= .pointer (some ⟨wr.heap.size,0,none⟩):=lO hp 0 1 rfl rfl;have hcell:=(b6.ext hE).cell 0;simp only[kM];go_simp;exact⟨_,rfl,rE,rfl⟩):G:=h
theorem Yu6(h:G:=by
 rw[hxi]at hp;intro hE;refine(L.getD i kP).m _ _ _ hR (hp λhc=> ?_);have hE:=hE hc;exact⟨hG.1,hG.2.1,hG.2.2.1,hG.2.2.2.1,λk hk _=>by rw[<-hR.heap (cD hk hG.2.2.2.1)];exact hE.heap hk⟩):G:=h
theorem Fk0(h:G:=by
 subst ha;have h1:fn.name≠ "runtime.NumGoroutine" :=by simpa using hn
 have h2:¬fn.body=none:=by intro h;simp[h]at hb
 simp[execOp,ho,resolve,Deferred.ofValue,Act.eval,invoke,callFunc,hf,h1,h2]):G:=h
theorem UA5(h:G:=by
 intro f w2 hG hp hl;have hE:Ext w1 w2:=hG;have q10:=tE hp 0 5 rfl rfl rfl;have hbx:=b2.ext hE;obtain⟨hcell0,hcell1,hcell2,-⟩:=hbx.cl [0,1,2];simp only[kM];go_simp;exact⟨_,rfl,rE,rfl⟩):G:=h
theorem uW4(h:G:=by
 intro f w2 hG hp hl;have hE:Ext w1 w2:=hG;have q3:=tE hp 0 0 rfl rfl rfl;have hbx:=b1.ext hE;obtain⟨hcell0,hcell1,hcell2,-⟩:=hbx.cl [0,1,2];simp only[kM];go_simp;exact⟨_,rfl,rE,rfl⟩):G:=h
theorem iH0(h:G:=by
 intro f w2 hG hp hl;have hE:Ext w1 w2:=hG;have q5:=tE hp 0 0 rfl rfl rfl;have hbx:=b1.ext hE;obtain⟨hcell0,hcell1,hcell2,-⟩:=hbx.cl [0,1,2];simp only[kM];go_simp;exact⟨_,rfl,rE,rfl⟩):G:=h
theorem YM4(h:G:=by
 simp only[hx]at hg;exact kM.mono (λ_ h=>by simp only[hx];exact h) (λv w' _ h=>⟨by simp only[hx];exactλ_=>h,trivial⟩) (λh=>⟨by simp only[hx];exactλ_=>h,trivial⟩) hg):G:=h
theorem rV5(h:G:=by
 refine⟨i+1,om,sm,a8 (hH.out.set e6 om hin hF.out hqq.out),?_⟩;exact(hE0.trans e6).step (Chg.trans (Chg.trans (Chg.setCell _ g7 _ _) (Chg.setCell _ g7 _ _)) (Chg.setCell _ g7 _ _)) hgw):G:=h
theorem yB9(h:G:=by
 intro S f wz hI hp hl hS;refine oC (P:=prog) #[.int .i64 0] func41 rfl rfl ?_;refine(mT 0 wz om om).mono ?_;rintro e w' ⟨v',rfl,h1,h2⟩;exact⟨_,rfl,h2,h1.mono hI.1.size⟩):G:=h
theorem cS1(h:G:=by
 by_cases his:i=x.s
 .rw[his];exact .self
 .refine wW _ [x.s] (λj hj=> ?_) hxs i (dV.2 ⟨by simpa using hpi,by simpa using his⟩);have:j=x.s:=by simpa using hj
  rw[this];exact .self):G:=h
theorem wF3(h:G:=by
 intro S f wz hI hp hl hS;refine oC (P:=prog) #[.int .i64 0] func41 rfl rfl ?_;refine(mT 0 wz om om).mono ?_;rintro e w' ⟨v',rfl,h1,h2⟩;exact⟨_,rfl,h2,h1.mono hI.size⟩):G:=h
theorem VL7(h:G:=by
 intro x hx;simp only[aS,bI,or_false]at hx;rcases hx with rfl |rfl
 .exact⟨by show(w.heap.size+2)<w4.heap.size;omega,rfl⟩
 .exact⟨by show(w.heap.size+3)<w4.heap.size;omega,rfl⟩):G:=h
theorem ut2(h:G:=by
 exact mN (P:=prog) _ _ _ (w.heap.size+1) _ _ _ (lJ _:PP _).p rfl rfl rfl hv (show Bx 35 w2 _ _ from hg0.trans b2) kr rfl (xZ rfl hn.oneCell) (λw' h=>⟨s',rfl,hn.chg h om⟩)):G:=h
theorem uR4(h:G:=by
 exact mN (P:=prog) _ _ _ (w.heap.size+2) _ _ _ (lJ _:PP _).p rfl rfl rfl hv (show Bx 35 w2 _ _ from hg0.trans b3) kr rfl (xZ rfl hn.oneCell) (λw' h=>⟨s',rfl,hn.chg h om⟩)):G:=h
theorem Op6(h:G:=by
 exact mN (P:=prog) _ _ _ (w.heap.size+2) _ _ _ (mI _:PP _).p rfl rfl rfl hv (show Bx 61 w2 _ _ from hg0.trans b3) kr rfl (xZ rfl hn.oneCell) (λw' h=>⟨s',rfl,hn.chg h om⟩)):G:=h
theorem AE8(h:G:=by
 exact mN (P:=prog) _ _ _ (w.heap.size+2) _ _ _ (mI _:PP _).p rfl rfl rfl hv (show Bx 61 w3 _ _ from hg0.trans B3) kr rfl (xZ rfl hn.oneCell) (λw' h=>⟨s',rfl,hn.chg h om⟩)):G:=h
theorem uU1(h:G:=by
 intro f w2 hG hp hl;have qg:=kO hp 0 13 rfl rfl (λh=>by cases h);refine kS (p:=(kL (u2):PP _).p) rfl (lS qg) ?_;intro hg0;clear qg;simp only[kM];go_simp;exact⟨_,rfl,rE,rfl⟩):G:=h
theorem VL1(h:G:=by
 rcases hLS.2.2 with⟨e1,e2⟩ |⟨g'',cap'',cur,e1,e2,e3,e4⟩
 .rw[e1]at hg
  cases hg
 .rw[e1]at hg;simp only[Value.ownBlock,Option.some.injEq]at hg;subst hg;exact⟨cur,e3⟩):G:=h
theorem Aj3(h:G:=by
 rw[HI1.out,cE,HX.out];intro e he;rcases aW.1 he with he |he
 .exact hS.out e he
 .simp only[Option.toList_some,aC]at he;subst he;show xs.length+xt.length<=6;rw[<-HP.out];omega):G:=h
theorem BB0(h:G:=by
 intro g hg;rcases h.2 with⟨h1,h2⟩ |⟨g',cap,cur,h1,h2,h3,h4⟩
 .rw[h1]at hg
  cases hg
 .rw[h1]at hg;simp only[Value.ownBlock,Option.some.injEq]at hg;subst hg;exact h2):G:=h
theorem uV8(h:G:=by
 intro f w2 hG hp hl;have hE:Ext w1 w2:=hG;change kM _ _ _ f w2 Ext _;exact kZ (P:=prog) _ _ (w.heap.size+1) _ _ _ rfl rfl rfl (b2.ext hE) underlying35 rfl kr rfl):G:=h
theorem EF9(h:G:=by
 intro f w2 hG hp hl;have hE:Ext w1 w2:=hG;change kM _ _ _ f w2 Ext _;exact kZ (P:=prog) _ _ (w.heap.size+1) _ _ _ rfl rfl rfl (b2.ext hE) underlying37 rfl kr rfl):G:=h
theorem Jq4(h:G:=by
 intro f w2 hG hp hl;have hE:Ext w4 w2:=hG;change kM _ _ _ f w2 Ext _;exact kZ (P:=prog) _ _ (w.heap.size+1) _ _ _ rfl rfl rfl (B2.ext hE) underlying35 rfl kr rfl):G:=h
theorem Fi5(h:G:=by
 change kM _ _ _ f w2 Ext _;refine oC #[.int .i64 0] func41 rfl rfl ?_;refine(mT 0 _ om om).mono ?_;rintro e w' ⟨v',rfl,h1,h2⟩;exact⟨v',rfl,h2,h1.mono hS,PW⟩):G:=h
theorem ll7(h:G:=by
 clear hh hc;go_wp2_with fail;refine(hmul.out w1).mono ?_;rintro e w' ⟨rfl,rfl⟩;go_wp2_with fail;go_ret;refine⟨oF (a:=(qq:Int) - 1) ?_,hext⟩;rw[<-Hex.out];omega):G:=h
theorem sZ6(h:G:=by
 intro f w2 hG hp hl;have hE:Ext w4 w2:=hG;change kM _ _ _ f w2 Ext _;exact kZ (P:=prog) _ _ w3.heap.size _ _ _ rfl rfl rfl (B5.ext hE) underlying35 rfl kr rfl):G:=h
theorem uH5(h:G:=by
 intro f w2 hG hp hl;have hE:Ext wz w2:=hG;change kM _ _ _ f w2 Ext _;exact kZ (P:=prog) _ _ w3.heap.size _ _ _ rfl rfl rfl (B5.ext hE) underlying35 rfl kr rfl):G:=h
theorem Uf4(h:G:=by
 intro f w2 hG hp hl;have hE:Ext w1 w2:=hG;change kM _ _ _ f w2 Ext _;exact kZ (P:=prog) _ _ w.heap.size _ _ _ rfl rfl rfl (b1.ext hE) underlying35 rfl kr rfl):G:=h
theorem FP4(h:G:=by
 intro f w2 hG hp hl;have hE:Ext w1 w2:=hG;change kM _ _ _ f w2 Ext _;exact kZ (P:=prog) _ _ w.heap.size _ _ _ rfl rfl rfl (b1.ext hE) underlying37 rfl kr rfl):G:=h
theorem zf3(h:G:=by
 intro f w2 hG hp hl;have hE:Ext w4 w2:=hG;change kM _ _ _ f w2 Ext _;exact kZ (P:=prog) _ _ w.heap.size _ _ _ rfl rfl rfl (B1.ext hE) underlying35 rfl kr rfl):G:=h
theorem BP1(h:G:=by
 by_cases h0:cd=0
 .obtain⟨a,n,cp,b,a1,n1,c1,a2,n2,c2,h, -⟩:=hz h0;exact⟨_,a,n,cp,b,a1,n1,c1,a2,n2,c2,h⟩
 .exact⟨0,none,0,0,false,none,0,0,none,0,0,hnz h0⟩):G:=h
theorem Sy5(h:G:=by
 intro f w6 hG hp hl;have qg:=tE hp 0 11 rfl rfl rfl;change kM _ _ _ f w6 Ext _;refine m9 (j:=11) (want:=false) rfl qg ?_;simp only[kM];go_simp;exact⟨_,rfl,rE,rfl⟩):G:=h
theorem JR5(h:G:=by
 intro f w2 hG hp hl;have qg:=tE hp 0 3 rfl rfl rfl;change kM _ _ _ f w2 Ext _;refine m9 (j:=3) (want:=true) rfl qg ?_;simp only[kM];go_simp;exact⟨_,rfl,rE,rfl⟩):G:=h
theorem zB7(h:G:=by
 intro f w6 hG hp hl;have qg:=tE hp 0 2 rfl rfl rfl;change kM _ _ _ f w6 Ext _;refine m9 (j:=2) (want:=true) rfl qg ?_;simp only[kM];go_simp;exact⟨_,rfl,rE,rfl⟩):G:=h
theorem yA0(h:G:=by
 rw[<-hw5];refine⟨i+1,om,ci om,a8 ⟨⟨E5,_,_,_,_,_,_,_,hbx.ext e5,?_,?_⟩,hB0.ext e5⟩⟩
 .rw[HGV.out];exact HQ.out.ext e5
 .rw[HGV.out];have:=HSZ.out;omega):G:=h
theorem Jb6(h:G:=by
 intro f w2 hE hp;have hS:=hE.size;change kM _ _ _ f w2 (λa b=>b=a.alloc _) _;exact I4 (P:=prog) _ _ (.agg #[.bool false,.slice none 0 0]) rfl rfl kr rfl):G:=h
theorem IE0(h:G:=by
 intro i hi u a b hR hp;have h0:i=0:=Decidable.not_not.1 (of_decide_eq_false hi);simp only[h0,if_true]at hR;obtain⟨gx,h1,h2⟩:=hp;exact⟨gx,h1,hR.bx h2 de⟩):G:=h
theorem OB0(h:G:=by
 refine .inr ⟨g,cap,cur,h1,h2,he.blk h3 ?_,h4⟩;rintro rfl;unfold Bx at hp;rw[h3]at hp;simp only[Option.some.injEq,Obj.cells.injEq]at hp;exact ht hp.2.1.symm):G:=h
theorem KX4(h:G:=by
 have hji:j - i>0:=om;have hile:i<=j:=om;have hicap:i<=cap:=om;clear hH hB7 hC7 hlay hzl hzs hzv hmul hw7;go_wp2;go_ret;exact⟨_,rfl,HF7.out.1,HF7.out.2⟩):G:=h
theorem zf1(h:G:=by
 intro f w6 hG hp hl;have hE:Ext wr w6:=hG;have q25:=tE hp 0 8 rfl rfl rfl;have hcell:=HC0'.out _ (hE0.trans hE);simp only[kM];go_simp;exact⟨_,rfl,rE,rfl⟩):G:=h
theorem lt9(h:G:=by
 simp only[List.getElem_map,List.getElem_range];have e2:(⟨b,off,none⟩:Addr).add i=⟨b,off+i,none⟩:=by unfold Addr.add;split<;>simp_all
 rw[e2,this];simp):G:=h
theorem yG2(h:G:=by
 intro f w6 hG hp hl;have hE:Ext wr w6:=hG;have q20:=tE hp 0 3 rfl rfl rfl;have hcell:=HC0.out _ (hE0.trans hE);simp only[kM];go_simp;exact⟨_,rfl,rE,rfl⟩):G:=h
theorem xS0(h:G:=by
 have h0:=HA.out;obtain⟨k1,k2, -⟩:=HX.out;obtain⟨k3,k4, -⟩:=HY.out;have k5:=congrArg List.length k1;simp only[aB,bH]at k5 ⊢;exact a8 ⟨om,om⟩):G:=h
theorem rY7(h:G:=by
 have hp':a.tmps[p]?.getD undef= .pointer (some ⟨g,0,none⟩):=by simpa using hp
 simp[results,h,hp',asAddr,run_loadVar_row w g t ty cs _ d hg hu hd hi]):G:=h
theorem sU9(h:G:=by
 have:val TK ys<val TK xs:=AR (by rw[nB];omega) dy j (by rw[Sx.out,Sy.out];omega);rw[Hx.out,Hy.out]at this;simp[o6,show¬x<y by omega,show¬x=y by omega]):G:=h
theorem gj2(h:G:=by
 intro i hi u a b hR hp;have h0:i=0:=Decidable.not_not.1 (of_decide_eq_false hi);simp only[h0,if_true]at hR;exact hR.ol (R:=λu q=>IsR w1 u q ky) hp de):G:=h
theorem dy6(h:G:=by
 refineλS a b he h=>⟨λh0=>(h.1 h0).trans he,λh0=> ?_⟩
 obtain⟨q1,q2,l',q3,q4⟩:=h.2 h0;exact⟨q1.trans (Ext.kp he),q2,l',q3.ext he,q4⟩):G:=h
theorem vU7(h:G:=by
 intro f w2 hG hp hl;have hE:Ext w1 w2:=hG;have q12:=tE hp 0 0 rfl rfl rfl;have hcell:=(b1_.ext hE).cell 0;simp only[kM];go_simp;exact⟨_,rfl,rE,rfl⟩):G:=h
theorem Xz0(h:G:=by
 intro f w2 hG hp hl;have hE:Ext w1 w2:=hG;have q10:=tE hp 0 5 rfl rfl rfl;have hcell:=(b1.ext hE).cell 1;simp only[kM];go_simp;exact⟨_,rfl,rE,rfl⟩):G:=h
theorem Qa5(h:G:=by
 intro f w2 hG hp hl;have hE:Ext w1 w2:=hG;have q12:=tE hp 0 7 rfl rfl rfl;have hcell:=(b1.ext hE).cell 2;simp only[kM];go_simp;exact⟨_,rfl,rE,rfl⟩):G:=h
theorem GJ0(h:G:=by
 intro f w2 hG hp hl;have hE:Ext w1 w2:=hG;have q12:=tE hp 0 7 rfl rfl rfl;have hcell:=(b2.ext hE).cell 1;simp only[kM];go_simp;exact⟨_,rfl,rE,rfl⟩):G:=h
theorem YQ1(h:G:=by
 intro f w2 hG hp hl;have hE:Ext w1 w2:=hG;have q3:=tE hp 0 0 rfl rfl rfl;have hcell:=(b1.ext hE).cell 0;simp only[kM];go_simp;exact⟨_,rfl,rE,rfl⟩):G:=h
theorem tv6(h:G:=by
 intro f w2 hG hp hl;have hE:Ext w1 w2:=hG;have q5:=tE hp 0 0 rfl rfl rfl;have hcell:=(b1.ext hE).cell 0;simp only[kM];go_simp;exact⟨_,rfl,rE,rfl⟩):G:=h
theorem sH4(h:G:=by
 intro f w2 hG hp hl;have hE:Ext w1 w2:=hG;have q5:=tE hp 0 2 rfl rfl rfl;have hcell:=(b1.ext hE).cell 1;simp only[kM];go_simp;exact⟨_,rfl,rE,rfl⟩):G:=h
theorem Ac8(h:G:=by
 intro f w2 hG hp hl;have hE:Ext w1 w2:=hG;have q7:=tE hp 0 2 rfl rfl rfl;have hcell:=(b2.ext hE).cell 0;simp only[kM];go_simp;exact⟨_,rfl,rE,rfl⟩):G:=h
theorem AX2(h:G:=by
 intro f w2 hG hp hl;have hE:Ext w1 w2:=hG;have q7:=tE hp 0 2 rfl rfl rfl;have hcell:=(b2.ext hE).cell 2;simp only[kM];go_simp;exact⟨_,rfl,rE,rfl⟩):G:=h
theorem TI9(h:G:=by
 intro hg0;clear qg;change kM _ _ _ f w2 Ext _;exact kZ (P:=prog) _ _ (w.heap.size+1) _ _ _ rfl rfl rfl (b2_.ext hE) underlying39 rfl kr rfl):G:=h
theorem SS1(h:G:=by
 have hj:=HJ1.out;refine⟨i,j1,rfl,rfl,om,om,a8 ⟨us,h1,H6.out,by rw[e];exact h3,by rw[e];exact h4,?_⟩,hch.trans (E6.chg g)⟩;rw[hj,<-dK,h5,dK]):G:=h
theorem qy3(h:G:=by
 have qg:=tE hp 1 11 rfl rfl rfl;change kM _ _ _ f w6 Ext _;refine m9 (j:=11) (want:=false) rfl qg ?_;simp only[kM];go_simp;exact⟨_,rfl,rE,rfl⟩):G:=h
theorem cI0(h:G:=by
 have qg:=tE hp 2 11 rfl rfl rfl;change kM _ _ _ f w6 Ext _;refine m9 (j:=11) (want:=false) rfl qg ?_;simp only[kM];go_simp;exact⟨_,rfl,rE,rfl⟩):G:=h
theorem Ir7(h:G:=by
 intro hg0;clear qg;change kM _ _ _ f w2 Ext _;exact kZ (P:=prog) _ _ w.heap.size _ _ _ rfl rfl rfl (b1_.ext hE) underlying39 rfl kr rfl):G:=h
theorem mh5(h:G:=by
 go_wp2_with fail;go_round
 case rel=>exact ⟨qq - 1,rr+v1,by have:=Hq.out;go_num,by go_num,om,Hs⟩
 case measure=>have:=Hq.out;simp[intOf];omega):G:=h
theorem fM2(h:G:=by
 have qg:=tE hp 2 3 rfl rfl rfl;change kM _ _ _ f w2 Ext _;refine m9 (j:=3) (want:=true) rfl qg ?_;simp only[kM];go_simp;exact⟨_,rfl,rE,rfl⟩):G:=h
theorem CF9(h:G:=by
 intro f w2 hG hp hl;have hE:Ext wr w2:=hG;have q19:=tE hp 0 2 rfl rfl rfl;have hcell:=hE.cell hcx;simp only[kM];go_simp;exact⟨_,rfl,rE,rfl⟩):G:=h
theorem Gs0(h:G:=by
 intro f w2 hG hp hl;have hE:Ext wr w2:=hG;have q23:=tE hp 0 6 rfl rfl rfl;have hcell:=hE.cell hcy;simp only[kM];go_simp;exact⟨_,rfl,rE,rfl⟩):G:=h
theorem Xb7(h:G:=by
 obtain⟨vs,a1,a2,a3⟩:=h1;have hs:=hI.1.size;exact⟨_,rfl,h2,ad,cap,rfl,vs,⟨a1.1,qX a1.2 hs⟩,a2,λi u y a b=>(a3 i u y a b).mono hs⟩):G:=h
theorem Uf9(h:G:=by
 refine wpX [_,_,_,_,_,_,_,_,_] ?_;intro w1 hI;go_wp2;go_roundw
 case rel=>exact ⟨k+1,om,ci om,hex.trans hI⟩
 case measure=>simp [intOf];omega):G:=h
theorem QF5(h:G:=by
 intro f w7 hG hp hl;have hS:w6.heap.size<=w7.heap.size:=Chg.size hG;change kM _ _ _ f w7 Ext _;simp only[kM];go_simp;exact⟨_,rfl,rE,rfl⟩):G:=h
theorem fi9(h:G:=by
 refine wW _ [x.s] (λj hj=> ?_) hxs i (dV.2 ⟨by simpa using hpi,by simpa using his⟩);have:j=x.s:=by simpa using hj
 rw[this];exact .self):G:=h
theorem Rw7(h:G:=by
 subst hin;have hlt:¬((i:Int)<(i:Int)):=om;go_wp2;go_ret;first |exact ⟨_,rfl,HE1.out.trans hE⟩ |exact ⟨⟨_,rfl⟩,HE1.out.trans hE⟩):G:=h
theorem FD5(h:G:=by
 have h':=h;obtain⟨s,t,rfl,hn,hm⟩:=h;obtain⟨ad,cap,rfl⟩:=hn.slice;obtain⟨ad2,cap2,rfl⟩:=hm.slice;exact⟨_,_,_,_,_,_,_,rfl,h'⟩):G:=h
theorem BQ8(h:G:=by
 by_cases hi:i=s1
 .simp only[hi,if_true]at hp ⊢;exact hF _ _ _ hR hp
 .simp only[hi,if_false]at hp ⊢;exact(L.getD i kP).m _ _ _ hR hp):G:=h
theorem QJ2(h:G:=by
 have HS:=a8 hs;clear hs;go_wp2;go_roundw
 case rel=>exact ⟨i1,hi1n,rfl,HS,hE0.trans e2⟩
 case measure=>have:=HI1.out;simp[intOf];omega):G:=h
theorem dr5(h:G:=by
 refine⟨i+1,om,ci om,a8 ⟨⟨E6,_,_,_,_,_,_,_,hbx0,?_,?_⟩,B06⟩⟩
 .rw[HGV.out];exact Hq6.out.mono hsz6
 .rw[HGV.out];exact Z6.out):G:=h
theorem Um2(h:G:=by
 simp only[kM];go_simp;exact⟨_,rfl,rE,congrArg Value.bool (by first | (rw[HR.out];done) | (rw[HR.out];exact decide_eq_decide.2 hzz))⟩):G:=h
theorem Kz5(h:G:=by
 rintro ee w3 ⟨rfl,e3⟩;go_wp2;go_roundw
 case rel=>exact ⟨i+1,om,ci om,hex.trans (e2.trans e3)⟩
 case measure=>simp [intOf];omega):G:=h
theorem OE8(h:G:=by
 subst hk0;have hfin:o6 x y=0:=by
  have:=ht.out;rw[wH,wH,Hx.out,Hy.out]at this;simp[o6,this]
 go_wp2;go_ret;exact⟨oF hfin.symm,hex⟩):G:=h
theorem dp4(h:G:=by
 go_wp2_with fail;refine(hmul.out w1).mono ?_;rintro e w' ⟨rfl,rfl⟩;go_wp2_with fail;go_ret;exact⟨by rw[<-Hex.out];rfl,hext⟩):G:=h
theorem iG2(h:G:=by
 refine⟨i+1,om,ci om,a8 ⟨⟨hE0,_,_,_,_,_,_,_,hbx,?_,?_⟩,hB0⟩⟩
 .rw[HGV.out];exact HQ.out
 .rw[HGV.out];have:=HSZ.out;omega):G:=h
theorem Cc6(h:G:=by
 refine wpX [_,_,_,_,_,_,_,_,_,_,_,_,_,_,_,_,_,_,_,_,_,_,_,_,_,_,_,_] ?_;intro w1 hI;go_wp2;go_ret;exact⟨by rw[HA.out]<;>rfl,hI⟩):G:=h
theorem yQ5(h:G:=by
 by_cases hj:j=i
 .rw[if_pos om,if_pos hj]
 .rw[if_neg hj];by_cases hji:j<i
  .rw[if_pos om,if_pos hji]
  .rw[if_neg om,if_neg hji]):G:=h
theorem Qb6(h:G:=by
 have:=hS.out;rw[show (l.map Prod.snd).take i=l.map Prod.snd by rw[HN.out,aK sm]]at this;exact(this.sl om).map λu y h=>h.ext hE0):G:=h
theorem pI7(h:G:=by
 intro x' hx' y' hy' hne hlx hly;simp only[nota x' hx',nota y' hy',if_false]at hlx hly ⊢;exact hD.apart x' hx' y' hy' hne hlx hly):G:=h
theorem ps3(h:G:=by
 refine⟨h.1,?_⟩;rcases h.2 with h2 |⟨g,cap,cur,h1,h2,h3,h4⟩
 .exact .inl h2
 .exact .inr ⟨g,cap,cur,h1,h2,he.blk h3,h4⟩):G:=h
theorem SD0(h:G:=by
 rw[<-hfr,<-hfr];exact wF _ _ _ _ _ λi _ hi=>by
  have hi2:i<l.length:=by simpa using hi
  have:=FY vs 0 hp i om;rwa [aY]at this):G:=h
theorem HG2(h:G:=by
 exact⟨_,rfl,by rw[HV.out];exact HL'.out.chg hch om,by rw[HV.out];exactλh=>by simp at h,(ea.trans E3.out).step hch om⟩):G:=h
theorem Ym1(h:G:=by
 have hbx:=b5.ext hE;obtain⟨hcell0,hcell1,hcell2,hcell3,-⟩:=hbx.cl [0,1,2,3];simp only[kM];go_simp;exact⟨_,rfl,rE,rfl⟩):G:=h
theorem Ks0(h:G:=by
 refine⟨h.1,?_⟩;rcases h.2 with h2 |⟨g,cap,cur,h1,h2,h3⟩
 .exact .inl h2
 .exact .inr ⟨g,cap,cur,h1,aE hB h2,h3⟩):G:=h
theorem Vv1(h:G:=by
 rintro ee w2 ⟨rfl,e2⟩;go_wp2;go_roundw
 case rel=>exact ⟨i+1,om,ci om,hex.trans e2⟩
 case measure=>simp [intOf];omega):G:=h
theorem cj8(h:G:=by
 obtain⟨h1,h2,h3,h4,h5⟩:=hH.out;have k1:us[j]? =(us.drop j)[0]? :=by rw[eF,bZ]
 rw[k1,h5,eF,bZ];unfold tsP;rw[aX,hp];rfl):G:=h
theorem Bd0(h:G:=by
 rw[q0];refine(sK _ _ _ _ _ _ _ _ wz (HV.out.1.ext hI).1 q1.raw).mono ?_;rintro e w' ⟨rfl,h2⟩;exact⟨_,rfl,h2,_,rfl⟩):G:=h
theorem pZ8(h:G:=by
 go_wp2;go_quiet (fail);go_wp2;go_ret;exact⟨oF hfin.symm,by first |exact hext.drews _ |exact (hext.drews _).drews _⟩):G:=h
theorem FM1(h:G:=by
 go_wp2;rw[<-hw1];refine l8 2 144 (w.heap.size+1) 144 _ _ kr rfl b2_ underlying144 rfl kr rfl ?_;exact⟨rfl,e1⟩):G:=h
theorem wc3(h:G:=by
 go_wp2_with fail;go_round
 case rel=>exact ⟨qq - 1,rr+v1,by go_num,by go_num,om,Hs⟩
 case measure=>simp [intOf];omega):G:=h
theorem oZ5(h:G:=by
 have hd:decide (0<=r)=false:=decide_eq_false h0;have hlt:r<0:=om;go_wp2;go_ret;exact⟨by rw[HB.out]<;>simp [h0],e2⟩):G:=h
theorem GD0(h:G:=by
 have:val TK xs<val TK ys:=AR (by rw[nB];omega) dx j (by rw[Sx.out,Sy.out];omega);rw[Hx.out,Hy.out]at this;simp[o6,this]):G:=h
theorem xI0(h:G:=by
 rcases HIN.out with h |h
 .rw[h]at hx;simp at hx
 .have:=(HIf.out.ne _ h).2 x (aM hx);rw[<-HNL.out]at this;exact this):G:=h
theorem oh3(h:G:=by
 have HAS:=a8 has;have HEB:=a8 heb;clear has heb;exfalso;have:=HA.out;have:=HB.out;have:=HAS.out;have:=HEB.out;omega):G:=h
theorem ay8(h:G:=by
 have hl:=mU hH.out.2.1.1.size;rw[aF,hH.out.1]at hl;unfold pR;rw[dN om,yG hH.out.2.1.1.size,gU,hzl,hmul,<-hl,jL,aG]):G:=h
theorem Ur1(h:G:=by
 obtain⟨hcell0,hcell1,hcell2,hcell3,hcell4,-⟩:=hbx.cl [0,1,2,3,4];simp only[kM];go_simp;exact⟨_,rfl,rE,rfl⟩):G:=h
theorem bz2(h:G:=by
 have hcell:=(HCL.out _ (e1.trans (hE0.trans hE))).2.2.2.2.2.2.2.2.2;simp only[kM];go_simp;exact⟨_,rfl,rE,rfl⟩):G:=h
theorem gq2(h:G:=by
 intro f w2 hG hp hl;have hS:w4.heap.size<=w2.heap.size:=hG.2.2.2.1;simp only[kM];go_simp;exact⟨_,rfl,rE,rfl⟩):G:=h
theorem Az7(h:G:=by
 intro f w2 hG hp hl;have hS:wr.heap.size<=w2.heap.size:=hG.2.2.2.1;simp only[kM];go_simp;exact⟨_,rfl,rE,rfl⟩):G:=h
theorem DX7(h:G:=by
 intro f w3 hG hp hl;have hS:w2.heap.size<=w3.heap.size:=hG.2.2.2.1;simp only[kM];go_simp;exact⟨_,rfl,rE,rfl⟩):G:=h
theorem KR0(h:G:=by
 change kM _ _ _ f w6 Ext _;refine m9 (j:=2) (want:=true) rfl qg ?_;simp only[kM];go_simp;exact⟨_,rfl,rE,rfl⟩):G:=h
theorem lL5(h:G:=by
 clear hmn;go_wp2;go_ret2;exact⟨_,by rw[hS.out]<;>rfl,⟨λh=>(by rw[hS.out]at h;cases h),λ_=>rfl⟩,e2⟩):G:=h
theorem tv0(h:G:=by
 obtain⟨L1,x,L2,h1,h2,h3⟩:=xR (R:=L) (h:=c - a) (by have:=HA.out;omega);exact⟨L1,x,L2,a8 ⟨h1,h2,h3⟩⟩):G:=h
theorem Dv2(h:G:=by
 obtain⟨L1,x,L2,h1,h2,h3⟩:=xR (R:=R) (h:=q - m) (by have:=HA.out;omega);exact⟨L1,x,L2,a8 ⟨h1,h2,h3⟩⟩):G:=h
theorem IP5(h:G:=by
 obtain⟨a,n,cp,b,a1,n1,c1,a2,n2,c2,h1,h2,h3⟩:=h;exact⟨a,n,cp,b,a1,n1,c1,a2,n2,c2,h1,h2.ext he,h3.ext he⟩):G:=h
theorem gS0(h:G:=by
 rcases h3 with⟨h4,h5,d,l,h6,h7, -⟩ |h3
 .exact .inl ⟨h4,h5,⟨d,h6⟩,by rw[h7,aB];rfl⟩
 .exact .inr h3):G:=h
theorem ew4(h:G:=by
 refine(nW _ nx dx _ (Qx.out.ext (e1.trans hE))).mono ?_;rintro e w' ⟨v',rfl,h1,h2⟩;exact⟨v',rfl,h2,h1⟩):G:=h
theorem FN4(h:G:=by
 refine(nW _ ny dy _ (Qy.out.ext (e1.trans hE))).mono ?_;rintro e w' ⟨v',rfl,h1,h2⟩;exact⟨v',rfl,h2,h1⟩):G:=h
theorem oo8(h:G:=by
 clear hH;go_wp2;go_roundw
 case rel=>exact ⟨i+1,om,ci om,HF,hex.trans e2⟩
 case measure=>simp [intOf];omega):G:=h
theorem iU2(h:G:=by
 go_wp2_with fail;refine hs.mono ?_;rintro e w' ⟨v',rfl,hfr,hext⟩;go_wp2;go_ret;exact⟨v',rfl,hfr,hext⟩):G:=h
theorem Sk0(h:G:=by
 have Hg:=a8 hg;clear hg;go_enter func160,ntmps160;go_wp2;go_ret;exact⟨by rw[Hg.out];rfl,rfl⟩):G:=h
theorem zH0(h:G:=by
 have Hg:=a8 hg;clear hg;go_enter func238,ntmps238;go_wp2;go_ret;exact⟨by rw[Hg.out];rfl,rfl⟩):G:=h
theorem mf7(h:G:=by
 intro i hi u a b hR hp;have h0:i≠0:=of_decide_eq_false hi;simp only[h0,if_false]at hR;exact hR.ol hp de):G:=h
theorem cB0(h:G:=by
 exact⟨vs.length+1,_,some ⟨g',0,none⟩,cap2',om,sm,rfl,a8 (hH.out.app hE7 hls7 HX.out.1 HX.out.2)⟩):G:=h
theorem aR1(h:G:=by
 repeat (first |exact trivial |refine ⟨λv wa wb h hp=>(by first |exact hp |exact lM.ext hp h),?_⟩)):G:=h
theorem HS5(h:G:=by
 rw[show sgn b n+sgn b m=sgn b (n+m)by cases b<;>simp [sgn]<;>omega]
 exact⟨_,rfl,hz1,e1.stepS hG sm⟩):G:=h
theorem iS5(h:G:=by
 unfold kM at h1;exact Oper.wp_mono (λa' w' ⟨v,q1,q2,q3⟩=>⟨v,q1,q2,fin v w' q2 λ_=>q3⟩) h1):G:=h
theorem ww2(h:G:=by
 rcases aR q.length with h |h
 .have hy0:y=0:=(qT lF).1 (by rw[<-Te2.out];exact aL h);omega
 .exact h):G:=h
theorem tO0(h:G:=by
 rw[hL];rcases HIN.out with h |h
 .rw[h];exact zl
 .have:=HIf.out.ne.len h;rw[<-HNL.out]at this;omega):G:=h
theorem kj7(h:G:=by
 have:=HY.out.2.2;rw[show mid - c1=q - m by have:=HCQ.out;have:=HA.out;have:=HH.out;omega];exact this):G:=h
theorem fu3(h:G:=by
 refine(EU nm l h c y.2.1.1 y.2.1.2.1 y.1 _).mono ?_;rintro e w' ⟨rfl,h2⟩;exact⟨_,rfl,h2,rfl⟩):G:=h
theorem Gq5(h:G:=by
 rw[HX.out.2]at hx;rcases aW.1 hx with hx |hx
 .exact hH.out x hx
 .rw[aC]at hx;subst hx;exact Hr.out):G:=h
theorem mD0(h:G:=by
 obtain⟨a,n,cp,b,a1,n1,c1,a2,n2,c2,h,k⟩:=hz rfl;exact⟨_,a,n,cp,b,a1,n1,c1,a2,n2,c2,h,hz rfl⟩):G:=h
theorem vl1(h:G:=by
 exact FQ hI (hS.1 rfl) hS1 rfl rfl q10 rfl kr (by show 15<16;omega) de lr de (λ_ _ _ _ _ h=>h)):G:=h
theorem PX3(h:G:=by
 go_wp2;go_ret;first |exact ⟨_,rfl,HE1.out.trans hE⟩ |exact ⟨⟨_,rfl⟩,HE1.out.trans hE⟩):G:=h
theorem Ui1(h:G:=by
 intro S f wz hI hp hl hS;have h10:f 10=u7:=hl.1 rfl;simp only[kM];go_simp;exact⟨_,rfl,rE,rfl⟩):G:=h
theorem mi3(h:G:=by
 simp only[kM];go_simp;first
 |exact ⟨_,rfl,rE,rfl⟩
 |exact ⟨_,rfl,rE,ci (cC _ ⟨om,om⟩)⟩):G:=h
theorem WY2(h:G:=by
 unfold kM at h ⊢;split at h
 .exact key h
 .exact⟨λhc=>key (h.1 hc),λhc=>hu (h.2 hc)⟩):G:=h
theorem uz3(h:G:=by
 clear k3 k4 k5 k6 hl;go_wp2;go_ret2;rw[HR.out];exact⟨HK.out.2.2,rfl,l',HK.out.1,HK.out.2.1⟩):G:=h
theorem UZ7(h:G:=by
 intro x hx;simp only[aC]at hx;subst hx;exact⟨by show(w.heap.size+1)<w1.heap.size;omega,rfl⟩):G:=h
theorem IP7(h:G:=by
 intro x hx;simp only[aC]at hx;subst hx;exact⟨by show(w.heap.size+2)<w1.heap.size;omega,rfl⟩):G:=h
theorem Wx3(h:G:=by
 intro x hx;simp only[aC]at hx;subst hx;exact⟨by show(w.heap.size+2)<w2.heap.size;omega,rfl⟩):G:=h
theorem jD1(h:G:=by
 obtain⟨vs,hLS,hvl, -⟩:=hL;obtain⟨ad,cap,h⟩:=lI hLS.2;exact⟨ad,cap,by rw[h,hvl];rfl⟩):G:=h
theorem sK7(h:G:=by
 rw[hrun,Oper.upon_enter];refine hc.mono ?_;rintro e w' ⟨v,rfl,h1,h2⟩;exact⟨v,rfl,h1,h2⟩):G:=h
theorem Lb9(h:G:=by
 simp only[Ne.symm h2,if_false]at h3;simp only[h3,Ne.symm h1,Ne.symm h2,if_false];exact hD h3 h4):G:=h
theorem Ki2(h:G:=by
 simp only[Option.toList_some,aC]at he;subst he;show xs.length+xt.length<=6;rw[<-HP.out];omega):G:=h
theorem VG2(h:G:=by
 clear hR hH htm hmk HCS hE1 e2;go_wp2;go_ret2;exact⟨_,by rw[hOK.out]<;>rfl,HR.out,HEE.out⟩):G:=h
theorem uR3(h:G:=by
 go_wp2;go_roundw
 case rel=>exact ⟨i+1,om,ci om,HX10.out⟩
 case measure=>simp [intOf];omega):G:=h
theorem TE5(h:G:=by
 go_wp2;go_ret2;rw[HR.out];exact⟨Ext.kp HE.out,code,hcode,rfl,(HL.out.ext HE.out).le hK0⟩):G:=h
theorem JY0(h:G:=by
 obtain⟨a,n,cp,b,a1,n1,c1,a2,n2,c2,h, -⟩:=hz h0;exact⟨_,a,n,cp,b,a1,n1,c1,a2,n2,c2,h⟩):G:=h
theorem fo2(h:G:=by
 exact⟨qq - 1,rfl,by have:=Hq.out;go_num,Hs.out.brk (by have:=Hq3.out;omega) Hb3.out om⟩):G:=h
theorem Nf8(h:G:=by
 go_enter func150,ntmps150;go_wp2;go_ret2;exact⟨by rw[HS.out,HD.out]<;>rfl,rE⟩):G:=h
theorem jA4(h:G:=by
 intro f w1 hG hp _;rw[hfr];exact hend f w1 hG (pY _ _ λi _ hi=>hp i (by simpa using hi))):G:=h
theorem lH9(h:G:=by
 have:=HY.out.2.2;rw[show mid - 1 - c=q - m by have:=HCQ.out;have:=HA.out;omega];exact this):G:=h
theorem wh7(h:G:=by
 by_cases hk:k<L.length
 .rw[List.getD,aA hk];exact hL _ (dC hk)
 .rw[List.getD,cM om];rfl):G:=h
theorem eb1(h:G:=by
 exact kZ (P:=prog) _ _ gv _ _ _ rfl rfl rfl (BV.ext hE) underlying86 rfl kr rfl):G:=h
theorem lY4(h:G:=by
 show FrL _ _ _ _ _ (dg W (val W p));rw[<-ht];exact M7 ⟨ad1,cap1,rfl,hlc1,hcap1,hown⟩):G:=h
theorem YK7(h:G:=by
 exact a8 ⟨hpl,⟨nK _,f6.ext e2⟩,by rw[e];unfold tsP;rw[gU],by rw[e,aP];omega,rfl⟩):G:=h
theorem wB9(h:G:=by
 exact⟨_,by rw[cI];exact h1,hR us h1 h2,by rw[getset _ _ _ _ (Ne.symm hik)];exact h3⟩):G:=h
theorem vh5(h:G:=by
 go_wp2;go_roundw
 case rel=>exact ⟨i+1,om,ci om,HJ1⟩
 case measure=>simp [intOf];omega):G:=h
theorem ta5(h:G:=by
 rw[hr]at hrun
 cases hrun
 simp only[Value.ownBlock,Option.some.injEq]at hg0;exact .inr om):G:=h
theorem PY0(h:G:=by
 go_wp2;go_ret2;rw[HR.out];exact⟨Ext.kp HE.out,cd,h0,rfl,(HL.out.ext HE.out).le hK0⟩):G:=h
theorem Mz5(h:G:=by
 go_wp2;go_roundw
 case rel=>exact ⟨i+1,om,ci om,hE⟩
 case measure=>simp [intOf];omega):G:=h
theorem mz9(h:G:=by
 intro hg0;clear qg;have hg1:=(cR.1 hg0).1;simp only[kM];go_simp;exact⟨_,rfl,rE,rfl⟩):G:=h
theorem SM8(h:G:=by
 rw[e1]at hg;simp only[Value.ownBlock,Option.some.injEq]at hg;subst hg;exact⟨cur,e3⟩):G:=h
theorem OW7(h:G:=by
 rw[<-nY hlt]at hc;exact(eX (w:=w) (hch.heap (k:=b2) (eJ w _ hc) (haw _ rfl))).trans hc):G:=h
theorem kU7(h:G:=by
 rw[hz]at*;go_wp2;go_ret;refine⟨_,rfl,?_,hex⟩;rw[<-hg,Nat.gcd_zero_right];exact ia):G:=h
theorem Ob4(h:G:=by
 intro k a _ _ _;rcases k with _ |_ |_ |_ |_ |_ |_ |_ |_ |_ |_ |_ |_ |_ |_ |_ |k<;>rfl):G:=h
theorem pP6(h:G:=by
 obtain⟨b,a1,n1,c1,a2,n2,c2,h1,h2⟩:=h;exact⟨b,a1,n1,c1,a2,n2,c2,h1,h2.ext he⟩):G:=h
theorem Kq2(h:G:=by
 rw[if_neg hj];by_cases hji:j<i
 .rw[if_pos om,if_pos hji]
 .rw[if_neg om,if_neg hji]):G:=h
theorem jc5(h:G:=by
 go_enter func102,ntmps102;go_wp2;go_ret;exact⟨by rw[HS.out]<;>rfl,rE⟩):G:=h
theorem ij3(h:G:=by
 have:=Hd.out.ext hex;rw[HX.out.1,HY.out.1]at this;exact a8 (by simpa[aG]using this)):G:=h
theorem KE7(h:G:=by
 have:=congrArg List.length hpso;unfold lP at this;unfold tsP;simp at this ⊢;omega):G:=h
theorem Gb3(h:G:=by
 intro k a _ _ _;rcases k with _ |_ |_ |_ |_ |_ |_ |_ |_ |_ |_ |_ |_ |_ |_ |k<;>rfl):G:=h
theorem ZS2(h:G:=by
 have:=congrArg Value.cells hv3;simpa[Value.cells]using congrArg Array.toList this):G:=h
theorem Ix2(h:G:=by
 simp only[Ne.symm hss,if_false]at h2;have:=(hD h2 h3).1;rw[hli]at this
 cases this):G:=h
theorem oo9(h:G:=by
 clear hd;go_wp2;go_ret;refine⟨_,rfl,?_,hex⟩;unfold FrN;rw[Hd2.out];exact hfr):G:=h
theorem MD9(h:G:=by
 exact⟨_,by rw[cI];exact h1,hR us h1 h2,by rw[getset _ _ _ _ hik];exact h3⟩):G:=h
theorem tX7(h:G:=by
 exact⟨qq - 1,rfl,by go_num,Hs.out.brk (by have:=Hq3.out;omega) Hb3.out om⟩):G:=h
theorem zJ1(h:G:=by
 have:=cW (show qq<=4294967295 by omega) (show v0<=4294967295 by omega);omega):G:=h
theorem Op8(h:G:=by
 intro f w6 hG hp hl;have qg:=tE hp 0 11 rfl rfl rfl;exact mS rfl qg de trivial):G:=h
theorem BZ3(h:G:=by
 intro f w6 hG hp hl;have qg:=tE hp 1 11 rfl rfl rfl;exact mS rfl qg de trivial):G:=h
theorem jZ0(h:G:=by
 intro f w6 hG hp hl;have qg:=tE hp 2 11 rfl rfl rfl;exact mS rfl qg de trivial):G:=h
theorem LA6(h:G:=by
 rw[h1]at hg;simp only[Value.ownBlock,Option.some.injEq]at hg;subst hg;exact h2):G:=h
theorem ZA5(h:G:=by
 rw[mU h.1.size];have:=aJ n (show i+1<=vs.length by omega);rw[dT]at this;omega):G:=h
theorem Fv4(h:G:=by
 simp only[Ne.symm hss,if_false]at h2;have:=(hD h2).1;rw[hli]at this
 cases this):G:=h
theorem ar2(h:G:=by
 have hcell:=(BPj.ext hE).cell 2;simp only[kM];go_simp;exact⟨_,rfl,rE,rfl⟩):G:=h
theorem RF7(h:G:=by
 have hcell:=(BPj.ext hE).cell 3;simp only[kM];go_simp;exact⟨_,rfl,rE,rfl⟩):G:=h
theorem yN8(h:G:=by
 have hcell:=(b1_.ext hE).cell 0;simp only[kM];go_simp;exact⟨_,rfl,rE,rfl⟩):G:=h
theorem Vj0(h:G:=by
 have hcell:=(b1_.ext hE).cell 1;simp only[kM];go_simp;exact⟨_,rfl,rE,rfl⟩):G:=h
theorem Us7(h:G:=by
 intro f w2 hG hp hl;have qg:=tE hp 0 3 rfl rfl rfl;exact mS rfl qg de trivial):G:=h
theorem YZ0(h:G:=by
 intro f w2 hG hp hl;have qg:=tE hp 1 3 rfl rfl rfl;exact mS rfl qg de trivial):G:=h
theorem Vu8(h:G:=by
 intro f w2 hG hp hl;have qg:=tE hp 2 3 rfl rfl rfl;exact mS rfl qg de trivial):G:=h
theorem qH3(h:G:=by
 intro f w6 hG hp hl;have qg:=tE hp 0 2 rfl rfl rfl;exact mS rfl qg de trivial):G:=h
theorem Mh1(h:G:=by
 intro f w6 hG hp hl;have qg:=tE hp 1 2 rfl rfl rfl;exact mS rfl qg de trivial):G:=h
theorem Kx0(h:G:=by
 intro f w6 hG hp hl;have qg:=tE hp 2 2 rfl rfl rfl;exact mS rfl qg de trivial):G:=h
theorem Tw0(h:G:=by
 split at h
 .cases h
  exact⟨aT ..,om⟩
 .exact⟨aN _ (ih h).1,(ih h).2⟩):G:=h
theorem Xg8(h:G:=by
 have hcell:=(B1.ext hE).cell 1;simp only[kM];go_simp;exact⟨_,rfl,rE,rfl⟩):G:=h
theorem UT9(h:G:=by
 have hcell:=(B2.ext hE).cell 1;simp only[kM];go_simp;exact⟨_,rfl,rE,rfl⟩):G:=h
theorem ZA6(h:G:=by
 have hcell:=(BX.ext hE).cell 0;simp only[kM];go_simp;exact⟨_,rfl,rE,rfl⟩):G:=h
theorem mi8(h:G:=by
 have hcell:=(b1.ext hE).cell 0;simp only[kM];go_simp;exact⟨_,rfl,rE,rfl⟩):G:=h
theorem Vb6(h:G:=by
 have hcell:=(b1.ext hE).cell 1;simp only[kM];go_simp;exact⟨_,rfl,rE,rfl⟩):G:=h
theorem OZ6(h:G:=by
 have hcell:=(b1.ext hE).cell 2;simp only[kM];go_simp;exact⟨_,rfl,rE,rfl⟩):G:=h
theorem lf6(h:G:=by
 have hcell:=(b2.ext hE).cell 1;simp only[kM];go_simp;exact⟨_,rfl,rE,rfl⟩):G:=h
theorem mM4(h:G:=by
 have hcell:=(b5.ext hE).cell 0;simp only[kM];go_simp;exact⟨_,rfl,rE,rfl⟩):G:=h
theorem LO0(h:G:=by
 have hi2:i<l.length:=by simpa using hi
 have:=FY vs 0 hp i om;rwa [aY]at this):G:=h
theorem bP8(h:G:=by
 rintro e w3 ⟨rfl,e3⟩;go_wp2;go_ret;exact⟨rfl,(e1.trans e2).trans e3⟩):G:=h
theorem ES8(h:G:=by
 rcases h2 with h2 |⟨x,h2,h3⟩
 .exact .inl om
 .exact .inr ⟨x,h2,h3⟩):G:=h
theorem Od0(h:G:=by
 rw[HTK.out,zR];simp only[tF,dY];rw[if_neg (by rw[<-Hnx.out];exact hcc),dY]):G:=h
theorem xB7(h:G:=by
 subst hin;have hlt:¬((i:Int)<(i:Int)):=om;go_wp2;go_ret;exact⟨rfl,hex⟩):G:=h
theorem qD8(h:G:=by
 have:=Hd.out.ext hex;rw[HX.out.1]at this;exact a8 (by simpa[aG]using this)):G:=h
theorem Bl5(h:G:=by
 intro k a _ _ _;rcases k with _ |_ |_ |_ |_ |_ |_ |_ |_ |_ |_ |_ |k<;>rfl):G:=h
theorem QD5(h:G:=by
 refine nG lK ?_;rw[nB];have:(10000:Nat)^5=100000000000000000000:=de;omega):G:=h
theorem HQ0(h:G:=by
 change kM _ _ _ f w2 Ext _;simp only[kM];go_simp;exact⟨_,rfl,rE,rfl⟩):G:=h
theorem jw6(h:G:=by
 change kM _ _ _ f w7 Ext _;simp only[kM];go_simp;exact⟨_,rfl,rE,rfl⟩):G:=h
theorem xd3(h:G:=by
 go_wp2;go_ret;exact GrP.mk true rfl (λh=>(by cases h)) (e1.trans hEq)):G:=h
theorem TH8(h:G:=by
 by_cases h:i<ys.length
 .rw[nM ys i h,nY h]
 .rw[aK om,aK om,AW h];simp):G:=h
theorem Bs3(h:G:=by
 intro x hx;simp only[aS,bI,or_false]at hx;rcases hx with rfl |rfl<;>rfl):G:=h
theorem Bj4(h:G:=by
 obtain⟨s,t,h1,h2,h3⟩:=h;exact⟨s,t,h1,h2.chg he hg,h3.chg he hg⟩):G:=h
theorem nT3(h:G:=by
 intro i o d _ hi hd;simp only[hi,Option.bind_some,hd,Option.getD_some]):G:=h
theorem sz1(h:G:=by
 intro x hx y hy h;simp only[aC]at hx hy;subst hx hy;exact absurd rfl h):G:=h
theorem AA4(h:G:=by
 obtain⟨ad,cap,h1,h2,h3,h4⟩:=h;exact⟨ad,cap,h1,h2,h3,h4.ext he⟩):G:=h
theorem tr1(h:G:=by
 have hc2:=hE.cell hcell;simp only[kM];go_simp;exact⟨_,rfl,rE,rfl⟩):G:=h
theorem cz7(h:G:=by
 rintro e w' ⟨v',rfl,h1,h2⟩;exact⟨_,rfl,h2,h1.mono hI.1.size⟩):G:=h
theorem pF5(h:G:=by
 rintro e w' ⟨v',rfl,h1,h3,h2⟩;exact⟨v',rfl,h2,h1.mono hS,h3⟩):G:=h
theorem ON4(h:G:=by
 rintro e w' ⟨v',rfl,h1,h3,h2⟩;exact⟨v',rfl,h2,h1.mono hS,om⟩):G:=h
theorem TW3(h:G:=by
 go_wp2;go_ret;exact⟨by rw[HB.out]<;>rfl,by rw[<-hw5];exact E5⟩):G:=h
theorem Jq5(h:G:=by
 go_wp2;go_ret;exact⟨by rw[HD.out]<;>rfl,by rw[<-hw1];exact e1⟩):G:=h
theorem iF7(h:G:=by
 have:=(HIf.out.ne _ h).2 x (aM hx);rw[<-HNL.out]at this;exact this):G:=h
theorem xT3(h:G:=by
 obtain⟨s,t,h1,h2,h3⟩:=h;exact⟨s,t,h1,h2.mono hB,h3.mono hB⟩):G:=h
theorem Vf9(h:G:=by
 clear hH;go_wp2;go_ret;exact⟨by rw[HF.out]<;>rfl,hex.trans e2⟩):G:=h
theorem qv3(h:G:=by
 have hy:=hy rfl;simp only[ho,hx,hy];exact⟨_,rfl,Ext.refl w,hp⟩):G:=h
theorem TM4(h:G:=by
 have:=rV n 0 j zl om hp;unfold zH at this;rw[hs]at this;exact this):G:=h
theorem cv9(h:G:=by
 rintro e w' ⟨rfl,h2⟩;exact⟨_,rfl,h2,by rw[HQ.out.1]<;>rfl⟩):G:=h
theorem YR2(h:G:=by
 rintro e w' ⟨rfl,h2⟩;exact⟨_,rfl,h2,by rw[HQ.out.2]<;>rfl⟩):G:=h
theorem rf0(h:G:=by
 rintro e w' ⟨v',rfl,h1,h2⟩;exact⟨_,rfl,h2,h1.mono hI.size⟩):G:=h
theorem MC0(h:G:=by
 rintro e w' ⟨v',rfl,h1,h2⟩;exact⟨_,rfl,h2,qX h1 hI.1.size⟩):G:=h
theorem Mr3(h:G:=by
 intro x hx;simp only[aC]at hx;subst hx;show g9<w8.heap.size;omega):G:=h
theorem ut7(h:G:=by
 intro x hx;simp only[aC]at hx;subst hx;show g9<w9.heap.size;omega):G:=h
theorem QA3(h:G:=by
 obtain⟨s,t,h1,h2,h3⟩:=h;exact⟨s,t,h1,h2.ext he,h3.ext he⟩):G:=h
theorem fX4(h:G:=by
 rintro e w' ⟨rfl,h2⟩;exact⟨_,rfl,h2,by rw[HD1.out]<;>rfl⟩):G:=h
theorem vz6(h:G:=by
 rintro e w' ⟨rfl,h2⟩;exact⟨_,rfl,h2,by rw[HD2.out]<;>rfl⟩):G:=h
theorem rB8(h:G:=by
 rintro e w' ⟨rfl,h2⟩;exact⟨_,rfl,h2,by rw[HIW.out]<;>rfl⟩):G:=h
theorem Et5(h:G:=by
 rintro e w' ⟨rfl,h2⟩;exact⟨_,rfl,h2,by rw[HLA.out]<;>rfl⟩):G:=h
theorem oB2(h:G:=by
 rintro e w' ⟨rfl,h2⟩;exact⟨_,rfl,h2,by rw[HWH.out]<;>rfl⟩):G:=h
theorem fD9(h:G:=by
 rintro e w2 ⟨rfl,e2⟩;go_wp2;go_ret;exact⟨rfl,e1.trans e2⟩):G:=h
theorem zO3(h:G:=by
 intro hg0;clear qg;simp only[kM];go_simp;exact⟨_,rfl,rE,rfl⟩):G:=h
theorem zT9(h:G:=by
 rw[<-HQ.out]at hv;simp only[kM];go_simp;exact⟨_,rfl,rE,rfl⟩):G:=h
theorem EL7(h:G:=by
 rintro e w' ⟨v',rfl,h1,h2⟩;exact⟨v',rfl,h2,h1.mono hS⟩):G:=h
theorem mn1(h:G:=by
 rintro e w' ⟨v',rfl,h1,h2⟩;exact⟨_,rfl,h2,h1.mono zl⟩):G:=h
theorem AC7(h:G:=by
 go_wp2;go_ret;exact GrP.mk true rfl (λh=>(by cases h)) E0):G:=h
theorem ng6(h:G:=by
 have hy0:y=0:=(qT lF).1 (by rw[<-Te2.out];exact aL h);omega):G:=h
theorem MI8(h:G:=by
 go_wp2;go_ret;exact⟨by rw[HR2.out]<;>rfl,hE0.trans e2⟩):G:=h
theorem wV7(h:G:=by
 rintro e w' ⟨z,rfl,h1,h2⟩;exact⟨_,rfl,h2,z,rfl,h1⟩):G:=h
theorem pM4(h:G:=by
 clear hH;go_wp2;go_ret;exact⟨by rw[HF.out]<;>rfl,hex⟩):G:=h
theorem Gc6(h:G:=by
 have:=of_decide_eq_false HR.out.symm;show x.c<=y.c;omega):G:=h
theorem Tj6(h:G:=by
 clear hp;simp only[kM];go_simp;exact⟨_,rfl,rE,_,rfl⟩):G:=h
theorem vu0(h:G:=by
 clear hp;simp only[kM];go_simp;exact⟨_,rfl,rE,b,rfl⟩):G:=h
theorem dL7(h:G:=by
 go_wp2;go_ret;exact⟨by rw[<-HK.out,HI.out]<;>rfl,X⟩):G:=h
theorem EF8(h:G:=by
 have:=of_decide_eq_true HR.out.symm;show y.c<=x.c;omega):G:=h
theorem Jh0(h:G:=by
 rintro e w2 ⟨rfl,e2⟩;go_wp2;go_ret;exact⟨rfl,e2⟩):G:=h
theorem rm4(h:G:=by
 clear hp;simp only[kM];go_simp;exact⟨_,rfl,rE,rfl⟩):G:=h
theorem Pj6(h:G:=by
 obtain⟨_,_,_,_,_,_,hb,hB, -⟩:=h;have:=hb.lt;omega):G:=h
theorem vp3(h:G:=by
 have:=hH.out;rw[Hn.out,bN]at this;exact a8 (xO this)):G:=h
theorem tF8(h:G:=by
 rintro e w' ⟨z,rfl,h2⟩;exact⟨_,rfl,h2,z,rfl⟩):G:=h
theorem DG7(h:G:=by
 obtain⟨ad,cap,rfl,_⟩:=h;exact⟨ad,cap,rfl⟩):G:=h
theorem uo1(h:G:=by
 go_wp2;go_ret;exact⟨by rw[HB.out]<;>rfl,rfl⟩):G:=h
theorem Dp3(h:G:=by
 go_wp2;go_ret;exact⟨by rw[HR.out]<;>rfl,hE0⟩):G:=h
theorem dj8(h:G:=by
 obtain⟨s,h1,h2⟩:=h;exact⟨s,h1,h2.ext he⟩):G:=h
theorem DR3(h:G:=by
 rintro e w' ⟨rfl,h2⟩;exact⟨_,rfl,h2,rfl⟩):G:=h
theorem LY0(h:G:=by
 go_wp2;go_ret;exact⟨by rw[HR.out]<;>rfl,rE⟩):G:=h
theorem Tm6(h:G:=by
 simp only[ho,hx];exact⟨_,rfl,Ext.refl w,hp⟩):G:=h
theorem pN8(h:G:=by
 simp only[kM];go_simp;exact⟨_,rfl,rE,_,rfl⟩):G:=h
theorem DG6(h:G:=by
 simp only[kM];go_simp;exact⟨_,rfl,rE,rfl⟩):G:=h
theorem jW6(h:G:=by
 show(w.heap.size+2)≠(w.heap.size+3);omega):G:=h
theorem tx9(h:G:=by
 show(w.heap.size+3)≠(w.heap.size+2);omega):G:=h
theorem DL8(h:G:=by
 intro x hx;simp only[aC]at hx;subst hx;rfl):G:=h
theorem aB8(h:G:=by
 exact .inr ⟨g,cap,cur,h1,aE hB h2,h3⟩):G:=h
theorem EV3(h:G:=by
 have:=(aH.1 hx).1;simp at this;exact this):G:=h
theorem Tk6(h:G:=by
 rw[aY];exact(j6 w (Ext.refl w) j u hj).1):G:=h
theorem vG6(h:G:=by
 rw[List.getD,aA hk];exact hL _ (dC hk)):G:=h
theorem Ku6(h:G:=by
 exact⟨_,rfl,hz1,e1.stepS hG sm⟩):G:=h
theorem Ux5(h:G:=by
 exact⟨aN _ (ih h).1,(ih h).2⟩):G:=h
theorem eV9(h:G:=by
 go_wp2;go_ret;exact⟨_,rfl,hE⟩):G:=h
theorem Vs2(h:G:=by
 rw[aC]at hx;subst hx;exact Hr.out):G:=h
theorem Nr9(h:G:=by
 rw[HGV.out];have:=HSZ.out;omega):G:=h
theorem tC0(h:G:=by
 unfold IL;rw[bY,aB];exact hls7):G:=h
theorem SV7(h:G:=by
 rw[h1]at hg;exact h.ext hg):G:=h
abbrev a8:=@Lib.hid
abbrev aA:=@List.getElem?_eq_getElem
abbrev aB:=@List.length_append
abbrev aC:=@List.mem_singleton
abbrev aD:=@And.intro
abbrev aE:=@Nat.le_trans
abbrev aF:=@List.length_map
abbrev aG:=@List.append_assoc
abbrev aH:=@List.getElem?_eq_some_iff
abbrev aI:=@Nat.eq_or_lt_of_le
abbrev aJ:=@Nat.mul_le_mul_right
abbrev aK:=@List.take_of_length_le
abbrev aL:=@List.eq_nil_of_length_eq_zero
abbrev aM:=@List.mem_of_getElem?
abbrev aN:=@List.mem_cons_of_mem
abbrev aO:=@List.getD_eq_getElem?_getD
abbrev aP:=@List.length_take
abbrev aQ:=@List.setIfInBounds_toArray
abbrev aR:=@Nat.eq_zero_or_pos
abbrev aS:=@List.mem_cons
abbrev aT:=@List.mem_cons_self
abbrev aU:=@Bool.and_eq_true
abbrev aV:=@List.set_cons_succ
abbrev aW:=@List.mem_append
abbrev aX:=@List.getElem?_map
abbrev aY:=@Nat.zero_add
abbrev aZ:=@List.set_cons_zero
abbrev bF:=@Nat.mul_comm
abbrev bH:=@List.length_cons
abbrev bI:=@List.not_mem_nil
abbrev bJ:=@List.mem_map
abbrev bK:=@Nat.mul_add
abbrev bL:=@List.getElem?_cons_zero
abbrev bM:=@List.getElem?_append_left
abbrev bN:=@List.take_length
abbrev bQ:=@List.take_append_drop
abbrev bU:=@Array.mem_toList_iff
abbrev bV:=@Nat.mul_le_mul_left
abbrev bW:=@List.length_replicate
abbrev bX:=@Nat.add_mul
abbrev bY:=@List.map_append
abbrev bZ:=@Nat.add_zero
abbrev cA:=@List.all_eq_true
abbrev cB:=@List.getElem?_append_right
abbrev cC:=@Go.IntWalk.i64_in
abbrev cD:=@Nat.lt_of_lt_of_le
abbrev cE:=@List.take_add_one
abbrev cF:=@List.append_nil
abbrev cG:=@Nat.mul_assoc
abbrev cH:=@Nat.mod_lt
abbrev cI:=@List.length_set
abbrev cJ:=@Array.length_toList
abbrev cK:=@List.length_drop
abbrev cL:=@Int.natCast_mul
abbrev cM:=@List.getElem?_eq_none
abbrev cN:=@Array.getElem?_eq_some_iff
abbrev cO:=@List.mem_append_left
abbrev cP:=@Nat.pow_succ
abbrev cQ:=@List.length_nil
abbrev cR:=@Bool.and_eq_true_iff
abbrev cS:=@Nat.div_lt_of_lt_mul
abbrev cT:=@List.take_succ_eq_append_getElem
abbrev cU:=@Nat.mod_add_div
abbrev cV:=@Array.getElem?_eq_getElem
abbrev cW:=@Nat.mul_le_mul
abbrev cX:=@Nat.le_mul_of_pos_left
abbrev cY:=@IntWalk.i64_in
abbrev cZ:=@Nat.pow_pos
abbrev dC:=@List.getElem_mem
abbrev dD:=@List.pairwise_cons
abbrev dE:=@List.getElem_set_self
abbrev dF:=@List.mem_append_right
abbrev dG:=@Nat.mul_one
abbrev dH:=@Nat.lt_or_ge
abbrev dI:=@Nat.div_add_mod
abbrev dJ:=@IntWalk.u64_in
abbrev dK:=@List.drop_drop
abbrev dL:=@List.mem_flatMap
abbrev dM:=@Nat.mod_eq_of_lt
abbrev dN:=@List.take_append_of_le_length
abbrev dO:=@List.drop_eq_getElem_cons
abbrev dP:=@List.drop_of_length_le
abbrev dQ:=@List.map_cons
abbrev dR:=@List.take_set_of_le
abbrev dS:=@Int.toNat_natCast
abbrev dT:=@Nat.succ_mul
abbrev dU:=@List.Perm.refl
abbrev dV:=@List.mem_filter
abbrev dW:=@Nat.mul_pos
abbrev dX:=@Array.getElem?_toList
abbrev dY:=@Rat.add_zero
abbrev dZ:=@Rat.intCast_mul
abbrev eF:=@List.getElem?_drop
abbrev eH:=@Bool.or_eq_false_iff
abbrev eI:=@List.pairwise_append
abbrev eJ:=@World.block_lt_of_cell?
abbrev eK:=@List.drop_set_of_lt
abbrev eL:=@Nat.min_eq_left
abbrev eM:=@Array.getElem?_setIfInBounds_ne
abbrev eO:=@List.getElem?_toArray
abbrev eP:=@Bool.false_eq_true
abbrev eQ:=@Int.natCast_ediv
abbrev eR:=@List.cons_append
abbrev eS:=@List.getElem?_take
abbrev eT:=@List.map_nil
abbrev eU:=@Nat.pow_add
abbrev eV:=@Nat.pow_le_pow_right
abbrev eW:=@Rat.mkRat_self
abbrev eX:=@World.cell?_of_block
abbrev eY:=@Nat.le_mul_of_pos_right
abbrev eZ:=@Nat.lt_trichotomy
abbrev fF:=@Int.natCast_pow
abbrev fH:=@Nat.max_le
abbrev fI:=@List.flatMap_append
abbrev fJ:=@List.length_pos_iff
abbrev fK:=@List.getElem?_set_self
abbrev fL:=@Nat.add_comm
abbrev fM:=@List.any_eq_true
abbrev fN:=@Nat.div_eq_of_lt
abbrev fO:=@List.length_singleton
abbrev fP:=@Array.getElem?_setIfInBounds_self
abbrev fQ:=@Bool.or_eq_true
abbrev fR:=@Nat.div_le_self
abbrev fS:=@List.any_eq_false
abbrev fT:=@List.ext_getElem?
abbrev fU:=@List.mem_of_mem_take
abbrev fV:=@List.size_toArray
abbrev fW:=@Nat.one_mul
abbrev fX:=@Int.natAbs_mul
abbrev fY:=@List.getElem?_replicate
abbrev fZ:=@List.pairwise_singleton
abbrev g8:=@List.take_zero
abbrev gB:=@Array.all_eq_true'
abbrev gC:=@Nat.add_sub_cancel
abbrev gE:=@Nat.sub_self
abbrev gF:=@Rat.zero_add
abbrev gH:=@Nat.add_assoc
abbrev gI:=@List.contains_iff_mem
abbrev gJ:=@List.set_append_right
abbrev gK:=@Nat.le_div_iff_mul_le
abbrev gM:=@World.ownsRow_nil
abbrev gN:=@List.getElem?_of_mem
abbrev gO:=@List.mem_range
abbrev gP:=@Nat.mul_zero
abbrev gQ:=@Int.natAbs_ediv_le_natAbs
abbrev gR:=@List.getElem?_eq_none_iff
abbrev gS:=@Bool.true_and
abbrev gU:=@List.map_take
abbrev gV:=@List.range_succ
abbrev gW:=@Nat.mul_add_div
abbrev gX:=@List.set_eq_take_append_cons_drop
abbrev gY:=@Bool.and_assoc
abbrev gZ:=@Bool.and_false
abbrev hQ:=@Bool.not_eq_true'
abbrev i8:=@Nat.zero_mul
abbrev i9:=@List.mem_iff_getElem
abbrev iA:=@Rat.num_eq_zero
abbrev iB:=@List.getD_cons_succ
abbrev iC:=@List.getD_cons_zero
abbrev iD:=@List.mem_map_of_mem
abbrev iE:=@Nat.le_of_lt
abbrev iF:=@Nat.mul_lt_mul_of_pos_right
abbrev iG:=@Int.natAbs_neg
abbrev iH:=@Int.sign_eq_neg_one_of_neg
abbrev iI:=@Int.sub_eq_add_neg
abbrev iJ:=@List.filter_append
abbrev iK:=@List.take_left
abbrev iL:=@Nat.lt_of_le_of_lt
abbrev iM:=@Int.sign_eq_zero_iff_zero
abbrev iN:=@List.pairwise_iff_getElem
abbrev iO:=@Nat.add_mul_mod_self_left
abbrev iP:=@Int.le_refl
abbrev iQ:=@List.flatMap_cons
abbrev iR:=@Nat.gcd_pos_of_pos_right
abbrev iS:=@Nat.le_of_dvd
abbrev iT:=@List.getElem?_cons_succ
abbrev iU:=@Nat.gcd_dvd_left
abbrev iV:=@Rat.divInt_ofNat
abbrev iW:=@Int.sign_eq_one_of_pos
abbrev iX:=@List.map_set
abbrev iY:=@Nat.gcd_comm
abbrev iZ:=@Rat.intCast_le_intCast
abbrev j7:=@List.nil_append
abbrev j8:=@Nat.mul_add_mod
abbrev j9:=@List.length_filter_le
abbrev jF:=@List.perm_append_comm
abbrev jH:=@Nat.div_lt_iff_lt_mul
abbrev jI:=@Nat.mul_div_mul_right
abbrev jJ:=@Nat.mul_mod_mul_right
abbrev jK:=@Bool.false_and
abbrev jL:=@List.drop_left
abbrev jM:=@List.getElem?_set_ne
abbrev jN:=@Nat.add_le_add_right
abbrev jO:=@Nat.le_refl
abbrev jP:=@List.filter_eq_self
abbrev jQ:=@List.getElem_of_mem
abbrev jR:=@Rat.mkRat_add_mkRat
abbrev jS:=@Bool.and_true
abbrev jT:=@Rat.den_mkRat
abbrev jU:=@Rat.num_mkRat
abbrev jV:=@Int.natAbs_natCast
abbrev jW:=@List.mem_replicate
abbrev jX:=@World.grownBy.refl
abbrev jY:=@World.ownsRow_made
abbrev jZ:=@Bool.or_true
abbrev kF:=@Int.mul_comm
abbrev kH:=@Nat.gcd_dvd_right
abbrev kI:=@Nat.lt_trans
abbrev kJ:=@Nat.pow_zero
abbrev kK:=@World.cells?_some
variable{b h cap:Nat}{d p:List Nat}{i:Value}{j:Option Addr}{m:World}{q:(Nat->Value)->Array Value}{r:Nat->Bool}{u:List Edge}
def val(B:Nat):List Nat->Nat
 | []=>0
 |x::l=>x+B*val B l
def Dig(B:Nat)(l:List Nat):Prop:=∀x∈l,x<B
def tz:List Nat->List Nat
 | []=> []
 |x::l=>match tz l with
  | []=>if x=0 then []else [x]
  |y::r=>x::y::r
def dgF(B:Nat):Nat->Nat->List Nat
 |0,_=> []
 |f+1,n=>if n=0 then []else n % B::dgF B f (n / B)
def dg(B n:Nat):List Nat:=dgF B n n
section
variable {B:Nat}
theorem Dig.nil:Dig B []:=λ_ b=>by cases b
theorem Dig.cons{c:Nat}(h:c<B)(i:Dig B d):Dig B (c::d):=λj b=>by
 rcases aS.1 b with rfl |b
 .exact h
 .exact i j b
theorem Dig.head{b:Nat}(c:Dig B (b::d)):b<B:=c b (aT ..)
theorem Dig.tail{b:Nat}(c:Dig B (b::d)):Dig B d:=λh i=>c h (aN _ i)
theorem Dig.take(b:Dig B d)(k:Nat):Dig B (d.take k):=λc h=>b c (fU h)
theorem Dig.drop(b:Dig B d)(k:Nat):Dig B (d.drop k):=λc h=>b c (List.mem_of_mem_drop h)
theorem Dig.append(h:Dig B d)(k:Dig B p):Dig B (d++p):=λc i=>by
 rcases aW.1 i with b |b
 .exact h c b
 .exact k c b
theorem Dig.set(c:Dig B d)(i:b<B):Dig B (d.set h b):=λj l=>by
 rcases List.mem_or_eq_of_mem_set l with m |rfl
 .exact c j m
 .exact i
theorem Dig.get(c:Dig B d)(h:b<d.length):d[b]<B:=c _ (dC h)
theorem Dig.replicate(b:0<B)(c:Nat):Dig B (List.replicate c 0):=λ_ d=>by
 rw[(jW.1 d).2];exact b
theorem qN(b c:List Nat):val B (b++c)=val B b+B^b.length*val B c:=by
 induction b with
 |nil=>simp [val]
 |cons h b d=>
  simp only[eR,val,d,bH,cP,bK];have:B*(B^b.length*val B c)=B^b.length*B*val B c:=by
   rw[<-cG,bF B]
  omega
theorem pU(i:0<B)(b:Dig B d):val B d<B^d.length:=by
 induction d with
 |nil=>simp [val]
 |cons j d c=>
  have h:=c b.tail;have:=b.head;simp only[val,bH,cP];have:B*val B d+B<=B^d.length*B:=by
   rw[bF _ B,<-Nat.mul_succ];exact bV B h
  omega
theorem qY(b:Nat):val B [b]=b:=by simp[val]
theorem nM(c:List Nat)(b:Nat)(d:b<c.length):val B (c.take (b+1))=val B (c.take b)+B^b*c[b]:=by
 rw[cT d,qN,qY,aP,eL om]
theorem vS(b:List Nat)(c:Nat)(d:c<b.length):val B (b.drop c)=b[c]+B*val B (b.drop (c+1)):=by
 rw[dO d,val]
theorem sX(b:List Nat)(c:Nat)(d:c<=b.length):val B b=val B (b.take c)+B^c*val B (b.drop c):=by
 have:=qN (B:=B) (b.take c) (b.drop c);rw[bQ,aP,eL d]at this;exact this
theorem UX(c:List Nat)(b d:Nat)(h:b<c.length):val B (c.set b d)+c[b]*B^b=val B c+d*B^b:=by
 induction c generalizing b with
 |nil=>simp at h
 |cons m c i=>
  cases b with
  |zero=>simp [val];omega
  |succ b=>
   have:=i b (by simpa using h);simp only[aV,val,List.getElem_cons_succ,cP];have j:c[b]'(by simpa using h)*(B^b*B)=B*(c[b]'(by simpa using h)*B^b):=by
    rw[<-cG,bF]
   have l:d*(B^b*B)=B*(d*B^b):=by
    rw[<-cG,bF]
   rw[j,l];have:=congrArg (B* ·) this;simp only[bK]at this;omega
theorem sL(b:Nat):val B (List.replicate b 0)=0:=by
 induction b with
 |zero=>rfl
 |succ b c=>simp [List.replicate_succ,val,c]
theorem xV(b:List Nat)(c:Nat):val B (b++List.replicate c 0)=val B b:=by
 rw[qN,sL];simp
theorem EC(b:List Nat)(c:Nat):val B (List.replicate c 0++b)=B^c*val B b:=by
 rw[qN,sL];simp
theorem yX(b:List Nat):tz (b++ [0])=tz b:=by
 induction b with
 |nil=>rfl
 |cons d b c=>simp only[eR,tz,c]
theorem UR(b:List Nat)(c:Nat)(d:c≠0):tz (b++ [c])=b++ [c]:=by
 induction b with
 |nil=>simp [tz,d]
 |cons i b h=>
  simp only[eR,tz,h]
  cases b<;>simp
theorem nJ(b:List Nat):(tz b).length<=b.length:=by
 induction b with
 |nil=>simp [tz]
 |cons h b c=>
  simp only[tz];split
  .split<;>simp
  .rename_i _ _ d;rw[d]at c;simpa using c
theorem zJ(d:List Nat):∃c,d=tz d++List.replicate c 0:=by
 induction d with
 |nil=>exact ⟨0,rfl⟩
 |cons l d i=>
  obtain⟨c,b⟩:=i;simp only[tz];split
  .rename_i h;rw[h]at b;split
   .rename_i j;exact⟨c+1,by rw[j,List.replicate_succ,j7];rw[j7]at b;rw[<-b]⟩
   .exact⟨c,by rw[j7]at b;rw[List.singleton_append,<-b]⟩
  .rename_i _ _ h;rw[h]at b;exact⟨c,by simp[b]⟩
theorem sD(b:List Nat):b.take (tz b).length=tz b:=by
 obtain⟨c,d⟩:=zJ b;have:(tz b++List.replicate c 0).take (tz b).length=tz b:=iK;rw[<-d]at this;exact this
theorem SK(b:List Nat):val B (tz b)=val B b:=by
 obtain⟨c,d⟩:=zJ b;have h:val B b=val B (tz b++List.replicate c 0):=congrArg _ d;rw[h,xV]
theorem Dig.tz(b:Dig B d):Dig B (tz d):=by
 rw[<-sD];exact b.take _
theorem ac1(b:List Nat):tz (tz b)=tz b:=by
 induction b with
 |nil=>rfl
 |cons h b c=>
  simp only[tz];split
  .split
   .rfl
   .rename_i d;simp[tz,d]
  .rename_i _ _ d;rw[d]at c;simp only[tz]at c ⊢;rw[c]
def Can(B:Nat)(l:List Nat):Prop:=Dig B l/\tz l=l
theorem Can.tail{h:Nat}{b:List Nat}(c:Can B (h::b)):Can B b:=by
 refine⟨c.1.tail,?_⟩;have:=c.2;simp only[tz]at this;split at this
 .rename_i d;split at this
  .cases this
  .simp only[List.cons.injEq,true_and]at this;rw[<-this];rfl
 .rename_i _ _ d;simp only[List.cons.injEq,true_and]at this;rw[d,this]
theorem Can.val_pos{b:Nat}(c:Can B (b::d)):0<val B (b::d):=by
 induction d generalizing b with
 |nil=>
  have:=c.2;simp only[tz]at this;split at this
  .cases this
  .simp[val];omega
 |cons h d i=>
  have j:=i c.tail;have l:0<B:=by have:=c.1.head;omega
  have:0<B*val B (h::d):=dW l j;rw[val];omega
theorem Can.uniq(h:Can B p)(i:Can B d)(b:val B p=val B d):p=d:=by
 induction p generalizing d with
 |nil=>
  cases d with
  |nil=>rfl
  |cons c d=>have:=i.val_pos;rw[<-b]at this;simp[val]at this
 |cons j p l=>
  cases d with
  |nil=>have:=h.val_pos;rw[b]at this;simp[val]at this
  |cons c d=>
   have m:=h.1.head;have n:=i.1.head;simp only[val]at b;have q:(j+B*val B p) % B=j:=by rw[iO];exact dM m
   have r:(c+B*val B d) % B=c:=by rw[iO];exact dM n
   have s:j=c:=by rw[<-q,<-r,b]
   subst s;have u:B*val B p=B*val B d:=om;have v:=Nat.eq_of_mul_eq_mul_left (show 0<B by omega) u;rw[l h.tail i.tail v]
theorem ae5(b:Dig B d):Can B (tz d):=⟨b.tz,ac1 d⟩
theorem O2(h:1<B):∀f b,b<=f->Can B (dgF B f b)/\val B (dgF B f b)=b:=by
 intro f
 induction f with
 |zero=>
  intro b i;have:b=0:=om;subst this;exact⟨⟨Dig.nil,rfl⟩,rfl⟩
 |succ f j=>
  intro b i;simp only[dgF];split
  .subst_vars;exact⟨⟨Dig.nil,rfl⟩,rfl⟩
  .rename_i _;have p:b / B<b:=Nat.div_lt_self om h;obtain⟨⟨l,m⟩,c⟩:=j (b / B) om;refine⟨⟨Dig.cons (cH _ om) l,?_⟩,?_⟩
   .simp only[tz,m];split
    .rename_i d;rw[d]at c;simp only[val]at c;have n:¬b % B=0:=by
      have:=cU b B;rw[<-c,gP,bZ]at this;omega
     rw[if_neg n,d]
    .rename_i d;rw[d]
   .rw[val,c,cU]
theorem nQ(c:1<B)(b:Nat):Can B (dg B b):=(O2 c b b lr).1
theorem nE(c:1<B)(b:Nat):val B (dg B b)=b:=(O2 c b b lr).2
theorem Can.eq_dg(b:1<B)(c:Can B d):d=dg B (val B d):=c.uniq (nQ b _) (nE b _).symm
theorem pK(b:1<B)(c:Dig B d):tz d=dg B (val B d):=by
 rw[(ae5 c).eq_dg b,SK]
theorem ae9(c:1<B)(d:dg B b=dg B h):b=h:=by
 rw[<-nE c b,<-nE c h,d]
theorem FK:dg B 0=[]:=rfl
theorem qT(hB:1<B){n:Nat}:dg B n=[]↔n=0:=by
 constructor
 .intro h;rw[<-nE hB n,h];rfl
 .rintro rfl;rfl
theorem O3(c:1<B)(d:b≠0)(h:b<B):dg B b=[b]:=by
 have i:Can B [b]:=⟨Dig.cons h Dig.nil,by simp[tz,d]⟩;have:=i.eq_dg c;rw[qY]at this;exact this.symm
theorem TJ(c:1<B)(n:b≠0):dg B b=b % B::dg B (b / B):=by
 have h:Can B (b % B::dg B (b / B)):=by
  obtain⟨i,j⟩:=nQ c (b / B);refine⟨Dig.cons (cH _ om) i,?_⟩;simp only[tz,j];split
  .rename_i d;have l:=(qT c).1 d;have m:¬b % B=0:=by
    have:=cU b B;rw[l,gP,bZ]at this;omega
   rw[if_neg m,d]
  .rename_i d;rw[d]
 have:=h.eq_dg c;rw[val,nE c,cU]at this;exact this.symm
theorem Can.pow_le{b:Nat}(c:Can B (b::d)):B^d.length<=val B (b::d):=by
 induction d generalizing b with
 |nil=>have:=c.val_pos;simp only[cQ,kJ];omega
 |cons j d h=>
  have:=h c.tail;rw[val,bH,cP];have i:=bV B this;rw[bF]at i;omega
theorem qU(c:1<B)(b:Nat):b<B^(dg B b).length:=by
 have:=pU om (nQ c b).1;rwa [nE c]at this
theorem nG(c:1<B){k:Nat}(j:b<B^k):(dg B b).length<=k:=by
 rcases d:dg B b with _ |⟨l,h⟩
 .simp
 .have m:Can B (l::h):=d▸nQ c b;have i:=m.pow_le;rw[<-d,nE c]at i;have n:B^h.length<B^k:=iL i j;have:=(Nat.pow_lt_pow_iff_right c).1 n;simp only[bH];omega
theorem lN(c:1<B)(d:h<=b):(dg B h).length<=(dg B b).length:=
 nG c (iL d (qU c b))
theorem qK(b:1<B)(c d:Nat):(dg B (c*d)).length<=(dg B c).length+(dg B d).length:=by
 refine nG b ?_;rw[eU];exact Nat.mul_lt_mul'' (qU b c) (qU b d)
theorem tS(d:1<B)(b c:Nat):(dg B (b+c)).length<=max (dg B b).length (dg B c).length+1:=by
 refine nG d ?_;have:=cD (qU d b) (eV om (Nat.le_max_left _ (dg B c).length));have:=cD (qU d c) (eV om (Nat.le_max_right (dg B b).length _));rw[cP];have:=bV (B^max (dg B b).length (dg B c).length) d;omega
theorem rL(b:1<B)(c:Dig B d):(dg B (val B d)).length<=d.length:=nG b (pU om c)
end
def Ext(w w':World):Prop:=w.grownBy w' none
def Chg(g:Nat)(w w':World):Prop:=w.grownBy w' (some g)
theorem Ext.refl(w:World):Ext w w:=⟨rfl,rfl,rfl,lr,λ_ _ _=>rfl⟩
theorem rE{w:World}:Ext w w:=Ext.refl w
theorem Ext.size{w w':World}(b:Ext w w'):w.heap.size<=w'.heap.size:=World.grownBy.size b
theorem Ext.heap{w w':World}(b:Ext w w'){k:Nat}(c:k<w.heap.size):w'.heap[k]? =w.heap[k]? :=World.grownBy.block b k c sm
theorem Ext.trans{a c d:World}(b:Ext a c)(k:Ext c d):Ext a d:=
 ⟨(World.grownBy.os k).trans (World.grownBy.os b),(World.grownBy.tape k).trans (World.grownBy.tape b),(World.grownBy.output k).trans (World.grownBy.output b),aE b.size k.size,λ_ h _=>(k.heap (cD h b.size)).trans (b.heap h)⟩
theorem Ext.drew{a w:World}(b:Ext a w):Ext a w.drew:=b.trans ⟨rfl,rfl,rfl,lr,λ_ _ _=>rfl⟩
theorem Ext.drews{a w:World}(b:Ext a w)(c:Nat):Ext a (w.drewN c):=b.trans ⟨rfl,rfl,rfl,lr,λ_ _ _=>rfl⟩
theorem Ext.alloc{a w:World}(b:Ext a w)(o:Obj):Ext a (w.alloc o):=
 b.trans ⟨rfl,rfl,rfl,sm,λk c _=>Below.heap_alloc _ _ _ c⟩
theorem Ext.setCell{a w:World}(b:Ext a w){p:Addr}(h:a.heap.size<=p.block)(c:Value):Ext a (w.setCell p c):=
 ⟨(show(w.setCell p c).os=w.os from rfl).trans (World.grownBy.os (w:=a) (w':=w) b),(show(w.setCell p c).tape=w.tape from rfl).trans (World.grownBy.tape (w:=a) (w':=w) b),(show(w.setCell p c).output=w.output from rfl).trans (World.grownBy.output (w:=a) (w':=w) b),by have:=b.size;simpa[World.setCell]using this,λk d _=>by rw[Below.heap_setCell _ _ _ _ om];exact b.heap d⟩
theorem Chg.size{g:Nat}{w w':World}(b:Chg g w w'):w.heap.size<=w'.heap.size:=World.grownBy.size b
theorem Chg.heap{g:Nat}{w w':World}(b:Chg g w w'){k:Nat}(c:k<w.heap.size)(d:k≠g):w'.heap[k]? =w.heap[k]? :=World.grownBy.block b k c (by simpa using d)
theorem Chg.refl(g:Nat)(w:World):Chg g w w:=⟨rfl,rfl,rfl,lr,λ_ _ _=>rfl⟩
theorem Chg.trans{g:Nat}{a c d:World}(b:Chg g a c)(k:Chg g c d):Chg g a d:=
 ⟨(World.grownBy.os k).trans (World.grownBy.os b),(World.grownBy.tape k).trans (World.grownBy.tape b),(World.grownBy.output k).trans (World.grownBy.output b),aE b.size k.size,λh i j=>(World.grownBy.block k h (cD i b.size) j).trans (World.grownBy.block b h i j)⟩
theorem Ext.chg(g:Nat){w w':World}(b:Ext w w'):Chg g w w':=⟨World.grownBy.os b,World.grownBy.tape b,World.grownBy.output b,b.size,λ_ c _=>b.heap c⟩
theorem Chg.setCell(w:World)(g b:Nat)(c:Value):Chg g w (w.setCell (g,b) c):=
 ⟨rfl,rfl,rfl,by simp[World.setCell],λk _ d=>Below.heap_setCell _ _ _ _ (by simpa using d)⟩
theorem Ext.step{a w w':World}{g:Nat}(c:Ext a w)(k:Chg g w w')(i:a.heap.size<=g):Ext a w':=
 ⟨(World.grownBy.os k).trans (World.grownBy.os c),(World.grownBy.tape k).trans (World.grownBy.tape c),(World.grownBy.output k).trans (World.grownBy.output c),aE c.size k.size,λ_ h _=>(k.heap (cD h c.size) om).trans (c.heap h)⟩
theorem Ext.below{w w':World}(b:Ext w w'):Below w w w':=⟨World.grownBy.os b,World.grownBy.tape b,World.grownBy.output b,b.size,λ_ c=>b.heap c⟩
theorem Ext.of_below{w w':World}(b:Below w w w'):Ext w w':=⟨b.os,b.tape,b.output,b.size,λk c _=>b.block k c⟩
theorem Ext.cell{w w':World}(c:Ext w w'){a:Addr}(b:w.cell? a=some i):w'.cell? a=some i:=
 (eX (c.heap (eJ w a b))).trans b
theorem Ext.blk{w w':World}(c:Ext w w'){g:Nat}{o:Obj}(b:w.heap[g]? =some o):w'.heap[g]? =some o:=
 (c.heap (cN.1 b).1).trans b
theorem Chg.blk{g0:Nat}{w w':World}(c:Chg g0 w w'){g:Nat}{o:Obj}(b:w.heap[g]? =some o)(d:g≠g0):w'.heap[g]? =some o:=
 (c.heap (cN.1 b).1 d).trans b
theorem qJ{w:World}{g:Nat}{o:Obj}(b:w.heap[g]? =some o):g<w.heap.size:=(cN.1 b).1
theorem Ext.frozen{w w':World}(c:Ext w w'):∀b o,b<w.heap.size->w'.frozen? ⟨b,o,none⟩=w.frozen? ⟨b,o,none⟩:=λb o d=>World.frozen?_of_block (w:=w) (c.heap (k:=b) d)
def Rd(w:World)(ad:Option Addr)(xs:List Value):Prop:=
 xs=[]∨∃b off,ad=some ⟨b,off,none⟩/\∀i v,xs[i]? =some v->w.cell? ⟨b,off+i,none⟩=some v
theorem Rd.ext{w w':World}{xs:List Value}(b:Rd w j xs)(c:Ext w w'):Rd w' j xs:=by
 rcases b with b |⟨d,h,i,l⟩
 .exact .inl b
 .exact .inr ⟨d,h,i,λm n p=>c.cell (l m n p)⟩
theorem Rd.nil(w:World)(b:Option Addr):Rd w b []:= .inl rfl
theorem Rd.at{w:World}{xs:List Value}(b:Rd w j xs)(l:0<xs.length):∃c d,j=some ⟨c,d,none⟩/\∀i h,xs[i]? =some h->w.cell? ⟨c,d+i,none⟩=some h:=by
 rcases b with b |b
 .subst b;simp at l
 .exact b
theorem Rd.take{w:World}{xs:List Value}(c:Rd w j xs)(d:Nat):Rd w j (xs.take d):=by
 rcases c with c |⟨h,i,l,m⟩
 .exact .inl (by simp[c])
 .exact .inr ⟨h,i,l,λn p b=>m n p (by rw[eS]at b;split at b;exact b;cases b)⟩
theorem Rd.drop{w:World}{xs:List Value}(l:∀c d,xs[c]? =some d->w.cell? (b,h+c)=some d)(i:Nat):Rd w (b,h+i) (xs.drop i):=
 .inr ⟨b,h+i,rfl,λc d j=>by rw[eF]at j;have:=l _ _ j;rwa [<-gH]at this⟩
theorem Rd.cut{w:World}{xs:List Value}(c:Rd w j xs)(b d:Nat)(q:xs.length<=d):Rd w (if d=b then j else Option.map (λ(l:Addr)=>l.add b) j) (xs.drop b):=by
 rcases c with c |⟨h,i,m,n⟩
 .subst c;exact .inl sm
 .by_cases p:d=b
  .exact .inl (List.drop_eq_nil_of_le om)
  .rw[if_neg p,m];have e:(⟨h,i,none⟩:Addr).add b=⟨h,i+b,none⟩:=by
    unfold Addr.add;split<;>simp_all
   simp only[Option.map_some,e];exact Rd.drop n b
theorem Rd.addr{w w':World}{xs:List Value}(d:Rd w j xs)(a:Addr)(l:j=some a)(m:Ext w w'):∀b c,xs[b]? =some c->w'.cell? (a.add b)=some c:=by
 intro b c h;rcases d with d |⟨_,_,i,n⟩
 .subst d;simp at h
 .rw[l]at i
  cases i
  have:=m.cell (n b c h);unfold Addr.add;split
  .subst_vars;exact this
  .exact this
def Own(e:TypeId)(B:Nat)(w:World)(ad:Option Addr)(cap:Nat)(xs:List Value):Prop:=
 (xs=[]/\cap=0/\ad=none)∨∃g cur,ad=some ⟨g,0,none⟩/\B<=g/\w.heap[g]? =some (.cells cur e (0,0))/\cur.size=cap/\cur.toList.take xs.length=xs
theorem Own.rd{e:TypeId}{B:Nat}{w:World}{xs:List Value}(d:Own e B w j b xs):Rd w j xs:=by
 rcases d with⟨d,_⟩ |⟨g,h,i,_,l,_,m⟩
 .exact .inl d
 .refine .inr ⟨g,0,i,λn _ c=> ?_⟩;rw[aY,cell_of_row w g n h e _ l];rw[<-m,eS]at c;split at c
  .simpa using c
  .cases c
theorem Own.ext{e:TypeId}{B:Nat}{w w':World}{xs:List Value}(c:Own e B w j b xs)(d:Ext w w'):Own e B w' j b xs:=by
 rcases c with c |⟨g,h,i,l,m,n⟩
 .exact .inl c
 .exact .inr ⟨g,h,i,l,d.blk m,n⟩
theorem Own.mono{e:TypeId}{B:Nat}{w:World}{xs:List Value}(c:Own e B w j h xs)(d:b<=B):Own e b w j h xs:=by
 rcases c with c |⟨g,i,l,m,n⟩
 .exact .inl c
 .exact .inr ⟨g,i,l,aE d m,n⟩
theorem Own.take{e:TypeId}{B:Nat}{w:World}{h:Option Addr}{i:Nat}{xs:List Value}(b:Own e B w h i xs)(c:Nat):Own e B w h i (xs.take c):=by
 rcases b with⟨b,l⟩ |⟨g,d,m,n,p,q,j⟩
 .exact .inl ⟨by simp[b],l⟩
 .refine .inr ⟨g,d,m,n,p,q,?_⟩;have:xs.take c=(d.toList.take xs.length).take c:=by rw[j]
  rw[this,List.take_take,aP];have r:xs.length<=d.toList.length:=by
   have:=congrArg List.length j;rw[aP]at this;omega
  congr 1;omega
theorem Own.chg{e:TypeId}{B:Nat}{w w':World}{xs:List Value}{g:Nat}(c:Own e B w j b xs)(d:Chg g w w')(q:g<B):Own e B w' j b xs:=by
 rcases c with c |⟨h,i,l,m,n,p⟩
 .exact .inl c
 .exact .inr ⟨h,i,l,m,d.blk n om,p⟩
def LIM:Nat:=1099511627776
def BIG:Nat:=8796093022208
theorem DE:BIG=8796093022208:=rfl
theorem mR:LIM=1099511627776:=rfl
def W:Nat:=18446744073709551616
theorem lX:W=18446744073709551616:=rfl
theorem lF:1<W:=by rw[lX];omega
def mK(k:IntKind)(xs:List Nat):List Value:=xs.map λ(x:Nat)=>Value.int k (x:Int)
theorem kU(k:IntKind)(xs:List Nat):(mK k xs).length=xs.length:=by simp[mK]
theorem mM(k:IntKind)(xs:List Nat)(b:Nat)(c:b<xs.length):(mK k xs)[b]? =some (.int k (xs[b]:Int)):=by simp[mK,c]
theorem oJ(k:IntKind)(xs:List Nat)(b:Nat):mK k (xs.take b)=(mK k xs).take b:=by simp[mK,gU]
theorem WM(k:IntKind)(xs:List Nat)(b:Nat):mK k (xs.drop b)=(mK k xs).drop b:=by simp[mK,List.map_drop]
theorem rU(k:IntKind)(xs b:List Nat):mK k (xs++b)=mK k xs++mK k b:=by simp[mK]
theorem Q9(k:IntKind)(xs:List Nat)(b c:Nat):(mK k xs).set b (.int k (c:Int))=mK k (xs.set b c):=by simp[mK,iX]
theorem A9{k:IntKind}{xs:List Nat}:mK k xs=[]↔xs=[]:=by simp[mK]
def IsL(k:IntKind)(w:World)(v:Value)(xs:List Nat):Prop:=
 ∃ad cap,v= .slice ad xs.length cap/\xs.length<=cap/\cap<=9223372036854775807/\Rd w ad (mK k xs)
def IsN(k:IntKind)(B:Nat)(w:World)(v:Value)(n:Nat):Prop:=∃xs,IsL k w v xs/\xs.length<=LIM/\Dig B xs/\val B xs=n
def FrL(e:TypeId)(k:IntKind)(B0:Nat)(w:World)(v:Value)(xs:List Nat):Prop:=
 ∃ad cap,v= .slice ad xs.length cap/\xs.length<=cap/\cap<=9223372036854775807/\Own e B0 w ad cap (mK k xs)
theorem IsL.ext{k:IntKind}{w w':World}{xs:List Nat}(h:IsL k w i xs)(he:Ext w w'):IsL k w' i xs:=by
 exact AA4
theorem IsN.ext{k:IntKind}{B:Nat}{w w':World}{b:Value}{c:Nat}(d:IsN k B w b c)(h:Ext w w'):IsN k B w' b c:=by
 obtain⟨xs,i,j⟩:=d;exact⟨xs,i.ext h,j⟩
theorem FrL.isL{e:TypeId}{k:IntKind}{w:World}{xs:List Nat}(c:FrL e k b w i xs):IsL k w i xs:=by
 obtain⟨d,h,j,l,m,n⟩:=c;exact⟨d,h,j,l,m,n.rd⟩
theorem FrL.ext{e:TypeId}{k:IntKind}{w w':World}{xs:List Nat}(h:FrL e k b w i xs)(he:Ext w w'):FrL e k b w' i xs:=by
 exact AA4
theorem FrL.mono{e:TypeId}{k:IntKind}{b c:Nat}{w:World}{d:Value}{xs:List Nat}(h:FrL e k b w d xs)(i:c<=b):FrL e k c w d xs:=by
 obtain⟨j,l,m,n,p,q⟩:=h;exact⟨j,l,m,n,p,q.mono i⟩
theorem FrL.chg{e:TypeId}{k:IntKind}{b g:Nat}{w w':World}{c:Value}{xs:List Nat}(d:FrL e k b w c xs)(h:Chg g w w')(i:g<b):FrL e k b w' c xs:=by
 obtain⟨j,l,m,n,p,q⟩:=d;exact⟨j,l,m,n,p,q.chg h i⟩
def FrN(e:TypeId)(k:IntKind)(B:Nat)(B0:Nat)(w:World)(v:Value)(n:Nat):Prop:=FrL e k B0 w v (dg B n)
def IsC(k:IntKind)(B:Nat)(w:World)(v:Value)(n:Nat):Prop:=IsL k w v (dg B n)
def sz(B n:Nat):Nat:=(dg B n).length
theorem IsC.isN{k:IntKind}{B:Nat}(c:1<B){w:World}(d:IsC k B w i b)(h:sz B b<=LIM):IsN k B w i b:=
 ⟨dg B b,d,h,(nQ c b).1,nE c b⟩
theorem FrN.isC{e:TypeId}{k:IntKind}{B:Nat}{w:World}(c:FrN e k B h w i b):IsC k B w i b:=FrL.isL c
theorem IsC.ext{k:IntKind}{B:Nat}{w w':World}{b:Value}{c:Nat}(d:IsC k B w b c)(h:Ext w w'):IsC k B w' b c:=IsL.ext d h
theorem FrN.ext{e:TypeId}{k:IntKind}{B b:Nat}{w w':World}{c:Value}{d:Nat}(h:FrN e k B b w c d)(i:Ext w w'):FrN e k B b w' c d:=FrL.ext h i
theorem FrN.mono{e:TypeId}{k:IntKind}{B b c:Nat}{w:World}{d:Value}{h:Nat}(i:FrN e k B b w d h)(j:c<=b):FrN e k B c w d h:=FrL.mono i j
theorem FrN.chg{e:TypeId}{k:IntKind}{B b g:Nat}{w w':World}{c:Value}{d:Nat}(h:FrN e k B b w c d)(i:Chg g w w')(j:g<b):FrN e k B b w' c d:=FrL.chg h i j
theorem IsN.len{k:IntKind}{B:Nat}(c:1<B){w:World}(d:IsN k B w i b):sz B b<=LIM:=by
 obtain⟨xs,_,h,j,l⟩:=d;rw[<-l];exact aE (rL c j) h
theorem RY{w:World}{B:Nat}{e:TypeId}{xs:List Value}(l:w.ownsRow B e 1 i b xs):∃h c,i= .slice h xs.length c/\xs.length<=c/\c<=9223372036854775807/\Own e B w h c xs:=by
 obtain⟨d,j⟩:=l;rw[dG]at d j;rcases j with⟨rfl,rfl⟩ |⟨g,c,m,rfl,n,p,q,r,_,s⟩
 .have:xs=[]:=aL d;subst this;exact⟨none,0,rfl,lr,om,.inl ⟨rfl,rfl,rfl⟩⟩
 .subst d;exact⟨_,c,rfl,q,by simpa[maxLen]using r,.inr ⟨g,m,rfl,n,p,om,s⟩⟩
theorem TW{w:World}{B:Nat}{e:TypeId}{k:IntKind}{xs:List Nat}(h:w.ownsRow B e 1 i b (mK k xs)):FrL e k B w i xs:=by
 obtain⟨j,l,c,d,m,n⟩:=RY h;rw[kU]at c d;exact⟨j,l,c,d,m,n⟩
def lM(e:TypeId)(k:IntKind)(w:World)(g:Nat)(xs:List Nat)(rest:List Value):Prop:=w.heap[g]? =some (.cells (mK k xs++rest).toArray e (0,0))
section
variable {w:World} {g:Nat} {k:IntKind} {xs:List Nat} {rest:List Value} {e:TypeId}
theorem lM.cell(d:lM e k w g xs rest)(b:Nat)(c:b<xs.length):w.cell? (g,b)=some (.int k (xs[b]:Int)):=by
 rw[cell_of_row w g b _ e _ d];have:=mM k xs b c;rw[eO,bM (by rw[kU];exact c),this]
theorem lM.got(c:lM e k w g xs rest)(b:Nat)(d:b<xs.length):∃h,w.cell? (g,b)=some h:=⟨_,c.cell b d⟩
theorem lM.free(c:lM e k w g xs rest)(b:Nat):w.frozen? (g,b)=false:=frozen_of_row w g b _ e c
theorem lM.set(d:lM e k w g xs rest)(b c:Nat)(h:b<xs.length):lM e k (w.setCell (g,b) (.int k (c:Int))) g (xs.set b c) rest:=by
 unfold lM;rw[heap_setCell_same w g b _ e _ d];congr 2;rw[<-Q9];simp[List.set_append,kU,h]
theorem lM.lt(b:lM e k w g xs rest):g<w.heap.size:=qJ b
theorem lM.ext{w':World}(b:lM e k w g xs rest)(c:Ext w w'):lM e k w' g xs rest:=c.blk b
theorem lM.chg{w':World}(c:lM e k w g xs rest)(d:Chg b w w')(h:g≠b):lM e k w' g xs rest:=d.blk c h
theorem lM.rd(d:lM e k w g xs rest):Rd w g (mK k xs):=
 .inr ⟨g,0,rfl,λb _ c=>by
  rw[aY,cell_of_row w g b _ e _ d];have h:b<(mK k xs).length:=(aH.1 c).1;simp only[eO,List.getElem?_append,h,if_true];exact c⟩
theorem lM.own(c:lM e k w g xs rest)(d:b<=g)(i:xs.length+rest.length=h):Own e b w g h (mK k xs):=
 .inr ⟨g,_,rfl,d,c,by simp[kU,i],sm⟩
theorem lM.frL(d:lM e k w g xs rest)(i:h<=g)(j:xs.length+rest.length=b)(l:b<=9223372036854775807)(c:Nat)(m:c<=xs.length):
  FrL e k h w (g,c,b) (xs.take c):=by
 refine⟨_,b,by rw[aP,eL m],by rw[aP];omega,l,?_⟩;rw[oJ];exact(d.own i j).take c
theorem lM.frN{B0 B:Nat}(h:lM e k w g xs rest)(i:B0<=g)(j:1<B)(l:Dig B xs)(m:val B xs=b)(n:xs.length+rest.length=cap)(p:cap<=9223372036854775807):
  FrN e k B B0 w (g,(tz xs).length,cap) b:=by
 have c:=h.frL i n p (tz xs).length (nJ xs);have d:=pK j l;rw[m]at d;rw[sD]at c;unfold FrN;rw[<-d];exact c
end
theorem FrL.blk{e:TypeId}{k:IntKind}{w:World}{xs:List Nat}(m:FrL e k b w i xs)(l:0<xs.length):
  ∃g rest c,i= .slice (some ⟨g,0,none⟩) xs.length c/\b<=g/\lM e k w g xs rest/\xs.length+rest.length=c/\c<=9223372036854775807:=by
 obtain⟨_,c,rfl,_,n,d⟩:=m;rcases d with⟨d,_⟩ |⟨g,h,rfl,p,q,_,j⟩
 .rw[A9.1 d]at l;simp at l
 .refine⟨g,h.toList.drop xs.length,c,rfl,p,?_,?_,n⟩
  .unfold lM;rw[q];congr 2;rw[kU]at j;rw[<-j,bQ]
  .have r:=congrArg List.length j;have:h.toList.length=h.size:=cJ;rw[aP,kU]at r;rw[cK];omega
theorem FF{P:Program}(w:World){ops:Array Oper}{rest:List Oper}{o:Oper}{a:Act}{Q:Exit->Act->World->Prop}
  (u:o.guard=none) (i j:Operand) (t:TypeId) (v:o.op=Op.makeSlice t i j)
  (e:TypeId) (c:Value) (bytes:Nat) (x:P.underlying t=some (.slice e)) (y:(P.info? e).map (λd=>(d.zero,d.size,d.bytes))=some (some c,1,bytes)) (z:c.cells=#[c])
  (p q:IntKind) (l m:Int) (b:Nat) (A:a.eval i= .int p l) (C:a.eval j= .int q m) (E:l=(b:Int)) (F:m=(b:Int)) (H:bytes*b<=281474976710656) (I:b<=maxLen)
  (J:∀w' g,Ext w w'->w.heap.size<=g->w'.heap[g]? =some (.cells (List.replicate b c).toArray e (0,0))->wpList P ops Q rest (a.put o.dst (.slice (some ⟨g,0,none⟩) b b)) w'):
  wpList P ops Q (o::rest) a w:=by
 obtain⟨d,K,L,M,N⟩:=info_parts y;subst N;refine wpList_make_full w u i j t v w e d c 1 x K L M p q l m b A C E F H I lr (λw' r O=> ?_);refine J w' w O lr ?_;rw[z,dG,toList_madeCells_one]at r;rcases r.2 with⟨h,_⟩ |⟨g,_,_,h,_,S,_,_,s,n⟩
 .cases h
 .simp only[Value.slice.injEq,Option.some.injEq,Addr.mk.injEq,and_true]at h;obtain⟨rfl,_,rfl⟩:=h;rw[S];congr 1;congr 1;rw[dG]at n s;rw[aK (by simp[s])]at n;rw[<-n]
theorem oK{P:Program}(w:World){ops:Array Oper}{rest:List Oper}{o:Oper}{a:Act}{Q:Exit->Act->World->Prop}
  (n:o.guard=none) (c d:Operand) (t:TypeId) (p:o.op=Op.makeSlice t c d)
  (e:TypeId) (k:IntKind) (bytes:Nat) (q:P.underlying t=some (.slice e)) (r:(P.info? e).map (λh=>(h.zero,h.size,h.bytes))=some (some (.int k 0),1,bytes))
  (l m:IntKind) (i j:Int) (b:Nat) (s:a.eval c= .int l i) (u:a.eval d= .int m j) (v:i=(b:Int)) (x:j=(b:Int)) (y:bytes*b<=281474976710656) (F:b<=9223372036854775807)
  (z:∀w' g,Ext w w'->w.heap.size<=g->lM e k w' g (List.replicate b 0) []->wpList P ops Q rest (a.put o.dst (.slice (some ⟨g,0,none⟩) b b)) w'):
  wpList P ops Q (o::rest) a w:=
 FF w n c d t p e (.int k 0) bytes q r rfl l m i j b s u v x y (by unfold maxLen;omega) λw' g A C E=>z w' g A C (by unfold lM;rw[E];simp[mK])
theorem FrL.owns{e:TypeId}{k:IntKind}{w:World}{xs:List Nat}(c:FrL e k b w i xs):w.ownsRow b e 1 i xs.length (mK k xs):=by
 obtain⟨_,h,rfl,j,_,l⟩:=c;refine⟨by rw[kU,dG],?_⟩;rcases l with⟨c,m,n⟩ |⟨g,p,q,r,s,_,d⟩
 .have:=A9.1 c;subst this m n;exact .inl ⟨rfl,rfl⟩
 .subst q;exact .inr ⟨g,h,p,rfl,r,s,j,by unfold maxLen;omega,om,by rw[dG];rw[kU]at d;exact d⟩
theorem lM.fr{w:World}{g:Nat}{k:IntKind}{xs:List Nat}{rest:List Value}{e:TypeId}(c:lM e k w g xs rest)(d:b<=g)(h:xs.length+rest.length=cap)(i:cap<=9223372036854775807):
  FrL e k b w (g,xs.length,cap) xs:=by
 have:=c.frL d h i xs.length lr;rwa [aK lr]at this
theorem Q8(k:IntKind)(c:List Nat):∀b∈mK k c,b.oneCell'=true:=by
 intro b d;obtain⟨_,_,rfl⟩:=bJ.1 d;rfl
theorem FrL.block{e:TypeId}{k:IntKind}{w:World}{xs:List Nat}(c:FrL e k b w i xs):∀g,i.ownBlock=some g->b<=g:=λg d=>(c.owns.lt g d).1
theorem BZ{P:Program}{w:World}(d:Nat)(t c e:TypeId)(h:TypeInfo)(size i:Nat)(l:P.underlying t=some (.slice e))(m:P.info? e=some h)
  (b:Value) (j:Nat) (xs:List Value) (n:w.ownsRow d e size b j xs):
  (Builtin.append_ #[t,t] c #[b,.slice none 0 i]).run P w= .ok b w:=by
 have p:(Builtin.append_ #[t,t] c #[b,.slice none 0 i])=(Builtin.append_ #[t,t] c #[b,()]):=rfl;rw[p];exact run_append_owned_none w d t c e h size l m b j xs n
theorem n6{P:Program}(w:World){ops:Array Oper}{rest:List Oper}{o:Oper}{a:Act}{Q:Exit->Act->World->Prop}
  (s:o.guard=none) (m n:Operand) (t:TypeId) (u:o.op= .call {callee:= .builtin .append,args:=#[m,n],argTypes:=#[t,t]})
  (e:TypeId) (k:IntKind) (bytes:Nat) (v:P.underlying t=some (.slice e)) (F:(P.info? e).map (λc=>(c.zero,c.size,c.bytes))=some (some (.int k 0),1,bytes))
  (i:Nat) (d:Value) (xs b:List Nat) (h:Option Addr) (j p:Nat) (x:a.eval m=d) (y:a.eval n=(h,j,p)) (H:b.length=j)
  (q:FrL e k i w d xs) (z:Rd w h (mK k b)) (I:(xs.length+j)*bytes<=140737488355328) (U:xs.length+j<=9223372036854775807) (J:i<=w.heap.size)
  (A:∀l w',FrL e k i w' l (xs++b)->w.grownBy w' d.ownBlock->wpList P ops Q rest (a.put o.dst l) w'):
  wpList P ops Q (o::rest) a w:=by
 obtain⟨c,C,K,L,M⟩:=info_parts F;subst H
 cases h with
 |none=>
  have N:b=[]:=by
   rcases z with r |⟨_,_,r,_⟩
   .exact A9.1 r
   .cases r
  subst N;refine wpList_plain s λ_ O=> ?_
  have S:=BZ (P:=P) (w:=w) i t o.type e c 1 p v C d xs.length _ q.owns;unfold Oper.wp;simp[execOp,u,resolve,invoke,builtin,x,y,S,Result.andThen];exact O _ _ (A d w (by simpa using q) ⟨rfl,rfl,rfl,lr,λ_ _ _=>rfl⟩)
 |some h=>
  refine wpList_append_own w s m n t u i e c (.int k 0) 1 bytes v C K L M rfl de d xs.length (mK k xs) x q.owns h b.length p (mK k b) y (by rw[kU,dG])
   (z.addr h rfl (Ext.refl w)) (Q8 k b) (by unfold maxLen;omega) I J (λl w' E T _=> ?_)
  rw[<-rU]at E;exact A l w' (TW E) T
theorem J2{P:Program}(w:World){ops:Array Oper}{rest:List Oper}{o:Oper}{a:Act}{Q:Exit->Act->World->Prop}
  (q:o.guard=none) (h i:Operand) (t:TypeId) (r:o.op=Op.makeSlice t h i)
  (e:TypeId) (k:IntKind) (bytes:Nat) (s:P.underlying t=some (.slice e)) (u:(P.info? e).map (λd=>(d.zero,d.size,d.bytes))=some (some (.int k 0),1,bytes))
  (j l:IntKind) (m n:Int) (b c:Nat) (v:a.eval h= .int j m) (x:a.eval i= .int l n) (y:m=(b:Int)) (z:n=((b+c:Nat):Int)) (A:bytes*(b+c)<=281474976710656) (M:b+c<=9223372036854775807)
  (C:∀w' g,Ext w w'->w.heap.size<=g->lM e k w' g (List.replicate b 0) (mK k (List.replicate c 0))->wpList P ops Q rest (a.put o.dst (.slice (some ⟨g,0,none⟩) b (b+c))) w'):
  wpList P ops Q (o::rest) a w:=by
 obtain⟨d,E,F,H,I⟩:=info_parts u;refine wpList_plain q λ_ J=> ?_
 have K:(d.bytes:Int)*((b+c:Nat):Int)<=281474976710656:=by rw[I];have:=A;rw[<-cL];omega
 have p:=run_make (P:=P) w t e d (.int k 0) s E F j l (b:Int) ((b+c:Nat):Int) om om K om;subst y z;have L:(madeCells (Value.int k 0).cells (((b+c:Nat):Int).toNat*d.size))=(mK k (List.replicate b 0)++mK k (List.replicate c 0)).toArray:=by
  rw[H,dG,dS];apply Array.ext';show(madeCells #[Value.int k 0] (b+c)).toList=_;rw[toList_madeCells_one];simp[mK,List.replicate_append_replicate]
 rw[L,dS,dS]at p;unfold Oper.wp;simp only[execOp,r,v,x,Sem.run_bind,p,Result.andThen_ok,Sem.run_pure];exact J _ _ (C _ w ((Ext.refl w).alloc _) lr (heap_alloc_new w _))
theorem Rd.new1(w:World)(k:IntKind)(b:Nat)(e:TypeId):Rd (w.alloc (.cells #[.int k (b:Int)] e)) w (mK k [b]):=
 .inr ⟨_,0,rfl,λc _ d=>by
  rw[aY,cell_of_row _ w c _ e _ (heap_alloc_new w _)];simpa[mK]using d⟩
theorem FrL.alloc{e:TypeId}{k:IntKind}{b:Nat}{w:World}{c:Value}{xs:List Nat}(d:FrL e k b w c xs)(o:Obj):FrL e k b (w.alloc o) c xs:=d.ext ((Ext.refl w).alloc o)
theorem M7{e:TypeId}{k:IntKind}{w:World}{xs:List Nat}(d:FrL e k h w (j,xs.length,b) xs):FrL e k h w (j,(tz xs).length,b) (tz xs):=by
 obtain⟨_,_,c,i,l,m⟩:=d;simp only[Value.slice.injEq]at c;obtain⟨rfl,_,rfl⟩:=c;refine⟨j,b,rfl,aE (nJ xs) i,l,?_⟩;rw[<-sD,oJ];exact m.take _
theorem Ext.step_own{a w w':World}{b:Option Nat}(c:Ext a w)(k:w.grownBy w' b)(d:∀g,b=some g->a.heap.size<=g):Ext a w':=by
 cases b with
 |none=>exact c.trans k
 |some g=>exact c.step k (d g rfl)
def mO(f:Nat->Value):List Oper->Nat->Array Value->Array Value
 | [],_,t=>t
 |o::l,k,t=>mO f l (k+1) (match o.dst with |some d=>t.setIfInBounds d (f k) |none=>t)
def mJ(ops:Array Oper)(tmps:Array Value)(f:Nat->Value):Array Value:=mO f ops.toList 0 tmps
def XG(d:Option Tmp)(l:List Oper):Bool:=
 match d with
 |none=>true
 |some d=>l.all λo=>o.dst !=some d
def AG(n:Nat):List Oper->Bool
 | []=>true
 |o::l=>(match o.dst with |some d=>decide (d<n) |none=>true)&&XG o.dst l&&AG n l
def xK:List Oper->Nat->Bool
 | [],_=>true
 |o::l,k=>(o.after.toList.all λe=> !Region.binds .any e || decide (e.on<k))&&xK l (k+1)
def XN(ops:Array Oper):Bool:=
 ops.toList.all λo=>match o.guard with
  |none=>true
  |some (j,_)=>((ops[j]?).bind (·.dst)).isSome
def oQ(ops:Array Oper)(n:Nat):Bool:=AG n ops.toList&&xK ops.toList 0&&XN ops
theorem GK(f:Nat->Value):∀(b:List Oper) (k:Nat) (t:Array Value),(mO f b k t).size=t.size
 | [],_,_=>rfl
 |o::b,k,t=>by
  rw[mO,GK f b]
  cases o.dst<;>simp
theorem zT(f:Nat->Value)(b:Nat):∀(c:List Oper) (k:Nat) (t:Array Value),(c.all λo=>o.dst !=some b)=true->(mO f c k t)[b]? =t[b]?
 | [],_,_,_=>rfl
 |o::c,k,t,h=>by
  simp only[List.all_cons,aU]at h;rw[mO,zT f b c _ _ h.2]
  cases d:o.dst with
  |none=>rfl
  |some e=>
   have i:e≠b:=by
    have:=h.1;rw[d]at this;simpa using this
   simp[eM i]
theorem wF(f g:Nat->Value):∀(c:List Oper) (k:Nat) (t:Array Value),(∀b,k<=b->b<k+c.length->f b=g b)->mO f c k t=mO g c k t
 | [],_,_,_=>rfl
 |o::c,k,t,h=>by
  rw[mO,mO,h k lr sm];exact wF f g c _ _ (λb _ _=>h b om (by simp only[bH];omega))
theorem KO(f:Nat->Value):∀(d:List Oper) (k:Nat) (t:Array Value),AG t.size d=true->∀c o b,d[c]? =some o->o.dst=some b->(mO f d k t)[b]? =some (f (k+c))
 | [],_,_,_,c,o,b,h,_=>by simp at h
 |x::d,k,t,hok,c,o,b,h,hd=>by
  simp only[AG,aU]at hok;obtain⟨⟨i,j⟩,l⟩:=hok
  cases c with
  |zero=>
   simp only[bL,Option.some.injEq]at h;subst h;rw[hd]at i j;rw[mO,zT f b d _ _ j,hd];simp at i;simp[i]
  |succ c=>
   simp only[iT]at h;rw[mO];have m:(match x.dst with |some b=>t.setIfInBounds b (f k) |none=>t).size=t.size:=by cases x.dst<;>simp
   rw[KO f d (k+1) _ (by rw[m];exact l) c o b h hd];congr 2;omega
theorem KP(f:Nat->Value)(l:Value):∀(b:List Oper) (k:Nat) (t:Array Value),AG t.size b=true->∀i o,b[i]? =some o->
  (match o.dst with |some d=>(mO f b k t).setIfInBounds d l |none=>mO f b k t)=mO (λc=>if c=k+i then l else f c) b k t
 | [],_,_,_,i,o,h=>by simp at h
 |x::b,k,t,hok,i,o,h=>by
  have y:=hok;simp only[AG,aU]at hok;obtain⟨⟨_,p⟩,r⟩:=hok
  cases i with
  |zero=>
   simp only[bL,Option.some.injEq]at h;subst h
   have q:mO (λc=>if c=k+0 then l else f c) b (k+1) (match x.dst with |some d=>t.setIfInBounds d l |none=>t)=mO f b (k+1) (match x.dst with |some d=>t.setIfInBounds d l |none=>t):=
    wF _ _ _ _ _ (λc j _=>by rw[if_neg om])
   rw[mO,mO];simp only[bZ,if_true]at q ⊢;rw[q]
   cases s:x.dst with
   |none=>rfl
   |some d=>
    simp only;rw[s]at p;refine Array.ext_getElem? λc=> ?_
    by_cases j:d=c
    .subst j;rw[zT f d b _ _ p];have:=GK f b (k+1) (t.setIfInBounds d (f k));simp only[fP,this,Array.size_setIfInBounds]
    .rw[eM j];exact fillL_agree f b (k+1) _ _ c (by simp[eM j]) sm
  |succ i=>
   simp only[iT]at h;have m:(match x.dst with |some d=>t.setIfInBounds d (f k) |none=>t).size=t.size:=by cases x.dst<;>simp
   have u:=KP f l b (k+1) (match x.dst with |some d=>t.setIfInBounds d (f k) |none=>t) (by rw[m];exact r) i o h;rw[mO,mO,u];have v:k+1+i=k+(i+1):=om;rw[v];rw[if_neg (show¬k=k+(i+1)by omega)]
where
 fillL_agree (f:Nat->Value):∀(b:List Oper) (k:Nat) (t n:Array Value) (c:Nat),t[c]? =n[c]? ->t.size=n.size->(mO f b k t)[c]? =(mO f b k n)[c]?
  | [],_,_,_,_,h,_=>h
  |o::b,k,t,n,c,h,m=>by
   rw[mO,mO];refine fillL_agree f b (k+1) _ _ c ?_ ?_
   .cases o.dst with
    |none=>exact h
    |some d=>
     by_cases j:d=c
     .subst j;rw[fP,fP,m]
     .simp[eM j,h]
   .cases o.dst<;>simp [m]
theorem DP(t:Array Value)(f:Nat->Value):∀(c:List Oper) (k:Nat) (d:Array Value),d=t->(∀i o b,c[i]? =some o->o.dst=some b->f (k+i)=t.getD b undef)->mO f c k d=t
 | [],_,_,hu,_=>hu
 |o::c,k,d,hu,h=>by
  subst hu;rw[mO];refine DP d f c (k+1) _ ?_ (λi m b n p=>by rw[<-h (i+1) m b (by simpa using n) p];congr 1;omega)
  cases q:o.dst with
  |none=>rfl
  |some b=>
   have:=h 0 o b rfl q;simp only[bZ]at this;rw[this];refine Array.ext_getElem? λr=> ?_
   by_cases l:b=r
   .subst l;rw[fP]
    split
    .rename_i j
     simp[j]
    .rename_i j
     simp[Array.getElem?_eq_none (Nat.le_of_not_lt j)]
   .simp[eM l]
theorem sQ:∀(c:List Oper) (k:Nat),xK c k=true->∀b o,c[b]? =some o->∀e∈o.after,Region.binds .any e=true->e.on<k+b
 | [],_,_,b,o,h=>by simp at h
 |x::c,k,hok,b,o,h=>by
  simp only[xK,aU]at hok
  cases b with
  |zero=>
   simp only[bL,Option.some.injEq]at h;subst h;intro e d i;have:=cA.1 hok.1 e (bU.2 d);simpa[i]using this
  |succ b=>
   intro e d i;have:=sQ c (k+1) hok.2 b o (by simpa using h) e d i;omega
theorem Oper.wp_noQ{P:Program}{o:Oper}{a:Act}{w:World}{d:Act->World->Prop}{Q:Exit->Act->World->Prop}(b:o.wp P a w d (λ_ _ _=>False)):o.wp P a w d Q:=by
 unfold Oper.wp at*;generalize (execOp a.eval o).run P w=r at*
 cases r with
 |ok h w'=>
  cases h<;>simp only[Oper.upon]at b ⊢ <;>first
   |exact b
   |exact Calls.mono b (λe _ c=>by
     cases e with
     |returned l=>exact c
     |panicked m=>exact c.elim
     |outgrown=>obtain ⟨_,_,i⟩:=c;exact i.elim)
 |halt j w'=>cases j<;>simp only[Oper.upon]at b ⊢
def FT(a:Act)(dst:Option Tmp)(w:World)(R:World->World->Prop)(post:Value->World->Prop)(a':Act)(w':World):Prop:=∃v,a'=a.put dst v/\R w w'/\post v w'
def kM(P:Program)(o:Oper)(a:Act)(f:Nat->Value)(w:World)(R:World->World->Prop)(post:Value->World->Prop):Prop:=
 match o.guard with
 |none=>o.wp P a w (FT a o.dst w R post) (λ_ _ _=>False)
 |some (j,want)=>
  (f j= .bool want->o.wp P a w (FT a o.dst w R post) (λ_ _ _=>False))/\(f j≠ .bool want->post undef w)
section
variable {P:Program} {id:Nat} {ops:Array Oper} {Q:Exit->Act->World->Prop} {tmps:Array Value} {df:List Deferred} {w:World}
 {G:World->World->Prop} {G0:Nat->World->World->Prop} {R:Nat->World->World->Prop} {post:Nat->Value->World->Prop} {D:(Nat->Bool)->(Nat->Value)->World->Prop}
theorem kM.mono{P:Program}{o:Oper}{a:Act}{f:Nat->Value}{w:World}{R i:World->World->Prop}{b c:Value->World->Prop}(l:∀w',R w w'->i w w')(m:∀d w',R w w'->b d w'->c d w')(hu:b undef w->c undef w)(h:kM P o a f w R b):kM P o a f w i c:=by
 have key:∀{Q:Exit->Act->World->Prop},o.wp P a w (FT a o.dst w R b) Q->o.wp P a w (FT a o.dst w i c) Q:=λh=>Oper.wp_mono (λ_ w' ⟨d,n,j,p⟩=>⟨d,n,l _ j,m _ _ j p⟩) h
 exact WY2
structure BE (ops:Array Oper) (tmps:Array Value) (df:List Deferred) (w:World) (G:World->World->Prop) (G0:Nat->World->World->Prop) (post:Nat->Value->World->Prop) (D:(Nat->Bool)->(Nat->Value)->World->Prop) (listed:Nat->Bool) (a:Act) (w1:World) (f:Nat->Value):Prop where
 act:a=⟨mJ ops tmps f,df⟩
 grown:G w w1
 pre:∀s,listed s=false->G0 s w w1
 done:∀i,i<ops.size->listed i=true->post i (f i) w1
 old:∀i o d,listed i=false->ops[i]? =some o->o.dst=some d->f i=tmps.getD d undef
 joint:D listed f w1
def yC(ops:Array Oper)(i:Nat):Nat->Nat->Bool
 |0,s=>i==s
 |n+1,s=>i==s || ((ops[s]?).any λos=>os.after.toList.any λe=>Region.binds .any e&&yC ops i n e.on)
theorem JC{ops:Array Oper}{d:Nat->Bool}(m:∀n p,ops[n]? =some p->d n=true->∀e∈p.after,Region.binds .any e=true->d e.on=true)(h:Nat):
  ∀(i c:Nat),yC ops h i c=true->d c=true->d h=true
 |0,c,b,hl=>by
  have:h=c:=by simpa[yC]using b
  rw[this];exact hl
 |i+1,c,b,hl=>by
  simp only[yC,fQ,beq_iff_eq]at b
  rcases b with b |b
  .rw[b];exact hl
  .cases j:ops[c]? with
   |none=>rw [j]at b;cases b
   |some q=>
    rw[j]at b;obtain⟨e,r,l⟩:=fM.1 b;simp only[aU]at l;exact JC m h i e.on l.2 (m c q j hl e (bU.1 r) l.1)
inductive Anc (ops:Array Oper) (i:Nat):Nat->Prop
 |self:Anc ops i i
 |edge {s:Nat} {os:Oper} {e:Edge}:ops[s]? =some os->e∈os.after->Region.binds .any e=true->Anc ops i e.on->Anc ops i s
theorem Anc.listed{ops:Array Oper}(j:∀c d,ops[c]? =some d->r c=true->∀e∈d.after,Region.binds .any e=true->r e.on=true)(l:Anc ops b h)(i:r h=true):r b=true:=by
 induction l with
 |self=>exact i
 |edge m n p _ q=>exact q (j _ _ m i _ n p)
theorem FZ{ops:Array Oper}{d:Nat}:∀(h c:Nat),yC ops d h c=true->Anc ops d c
 |0,c,b=>by
  have:d=c:=by simpa[yC]using b
  rw[this];exact .self
 |h+1,c,b=>by
  simp only[yC,fQ,beq_iff_eq]at b
  rcases b with b |b
  .rw[b];exact .self
  .cases i:ops[c]? with
   |none=>rw [i]at b;cases b
   |some m=>
    rw[i]at b;obtain⟨e,l,j⟩:=fM.1 b;simp only[aU]at j;exact .edge i (bU.1 l) j.1 (FZ h e.on j.2)
theorem Anc.trans{ops:Array Oper}{c:Nat}(d:Anc ops b h)(k:Anc ops h c):Anc ops b c:=by
 induction k with
 |self=>exact d
 |edge i j l _ m=>exact .edge i j l m
def FH(P:Program)(ops:Array Oper)(tmps:Array Value)(df:List Deferred)(w:World)(G:World->World->Prop)(G0:Nat->World->World->Prop)(R:Nat->World->World->Prop)(post:Nat->Value->World->Prop)(D:(Nat->Bool)->(Nat->Value)->World->Prop):Prop:=
 ∀i o,ops[i]? =some o->∀(listed:Nat->Bool) (f:Nat->Value) (w1:World),listed i=false->(∀j,Anc ops j i->j≠i->listed j=true)->D listed f w1->G w w1->
  (∀s,Anc ops i s->G0 s w w1)->
  (∀e∈o.after,Region.binds .any e=true->post e.on (f e.on) w1)->
  (∀j oj d,ops[j]? =some oj->oj.dst=some d->(oj.after.toList.any λe=>Region.binds .any e&&e.on==i)=true->f j=tmps.getD d undef)->
  kM P o ⟨mJ ops tmps f,df⟩ f w1 (R i) (λv w2=>post i v w2/\D (λj=>if j=i then true else listed j) (λj=>if j=i then v else f j) w2)
theorem BE.step(I:oQ ops tmps.size=true)(a6:∀h i m,G w i->R h i m->G w m)(a7:∀l h i m,h≠l->G0 l w i->R h i m->G0 l w m)
  (a9:∀h c p i m,h≠c->G w i->R c i m->post h p i->post h p m)
  (b0:FH P ops tmps df w G G0 R post D)
   {a:Act} {i:World} {f:Nat->Value} (s:BE ops tmps df w G G0 post D r a i f)
  {h:Nat} {o:Oper} (A:ops[h]? =some o) (J:r h=false) (X:∀e∈o.after,Region.binds .any e=true->r e.on=true)
  (L:∀c u,ops[c]? =some u->r c=true->∀e∈u.after,Region.binds .any e=true->r e.on=true)
  {K:Act->World->Prop} (b1:∀M w' b2,BE ops tmps df w G G0 post D (λc=>if c=h then true else r c) M w' b2->K M w'):
  wpOp P ops Q h K a i:=by
 have c0:=I;simp only[oQ,aU]at I;obtain⟨⟨Y,N⟩,b3⟩:=I;have O:ops.toList[h]? =some o:=by simpa using A
 have c1:h<ops.size:=(cN.1 A).1;have b4:∀e∈o.after,Region.binds .any e=true->post e.on (f e.on) i:=λe Z F=>by
  have c2:=sQ ops.toList 0 N h o O e Z F;exact s.done e.on om (X e Z F)
 have b5:∀c u d,ops[c]? =some u->u.dst=some d->(u.after.toList.any λe=>Region.binds .any e&&e.on==h)=true->f c=tmps.getD d undef:=by
  intro c u d v y b6;obtain⟨e,b7,S⟩:=fM.1 b6;simp only[aU,beq_iff_eq]at S;refine s.old c u d ?_ v y
  cases j:r c with
  |false=>rfl
  |true=>
   have:=L c u v j e (bU.1 b7) S.1;rw[S.2,J]at this
   cases this
 have b8:∀l,Anc ops h l->G0 l w i:=by
  intro l C;refine s.pre l ?_
  cases j:r l with
  |false=>rfl
  |true=>
   have:=Anc.listed L C j;rw[J]at this
   cases this
 have b9:∀c,Anc ops c h->c≠h->r c=true:=by
  intro c v T
  cases v with
  |self=>exact absurd rfl T
  |edge a0 N F bA=>
   rw[A]at a0
   cases a0
   exact Anc.listed L bA (X _ N F)
 have z:=b0 h o A r f i J b9 s.joint s.grown b8 b4 b5;have bB:∀p,(⟨mJ ops tmps f,df⟩:Act).put o.dst p=⟨mJ ops tmps (λc=>if c=h then p else f c),df⟩:=by
  intro p;have:=KP f p ops.toList 0 tmps Y h o O;simp only[aY]at this;unfold mJ;rw[<-this]
  cases o.dst<;>rfl
 have next:∀p m,G w m->(∀l,h≠l->r l=false->G0 l w m)->(∀c,c<ops.size->r c=true->c≠h->post c (f c) m)->(post h p m/\D (λc=>if c=h then true else r c) (λc=>if c=h then p else f c) m)->K ((⟨mJ ops tmps f,df⟩:Act).put o.dst p) m:=by
  intro p m bC bD bE a1;refine b1 _ _ (λc=>if c=h then p else f c) ⟨bB p,bC,?_,?_,?_,a1.2⟩
  .intro l j;by_cases U:l=h
   .subst U;simp at j
   .simp only[U,if_false]at j;exact bD l (λe=>U e.symm) j
  .intro c v j;by_cases x:c=h
   .subst x;simpa using a1.1
   .simp only[x,if_false]at j ⊢;exact bE c v j x
  .intro c u d j v y;by_cases x:c=h
   .subst x;simp at j
   .simp only[x,if_false]at j ⊢;exact s.old c u d j v y
 have a2:o.wp P ⟨mJ ops tmps f,df⟩ i (FT ⟨mJ ops tmps f,df⟩ o.dst i (R h) (λp m=>post h p m/\D (λc=>if c=h then true else r c) (λc=>if c=h then p else f c) m)) (λ_ _ _=>False)->o.wp P a i K Q:=by
  intro C;rw[s.act];refine Oper.wp_noQ (Oper.wp_mono (λM w' bG=> ?_) C);obtain⟨p,rfl,V,bO⟩:=bG;exact next p w' (a6 h i w' s.grown V) (λl T j=>a7 l h i w' T (s.pre l j) V) (λc v j x=>a9 c h (f c) i w' x s.grown V (s.done c v j)) bO
 unfold wpOp;simp only[A];unfold kM at z
 cases E:o.guard with
 |none=>
  simp only[E]at z;rw[if_pos (by simp[Region.wanted,E])];exact .inl (a2 z)
 |some bP=>
  obtain⟨c,a3⟩:=bP;simp only[E]at z;have a4:=cA.1 b3 o (aM O);simp only[E]at a4;obtain⟨d,y⟩:=Option.isSome_iff_exists.1 a4;obtain⟨u,bR,bS⟩:=Option.bind_eq_some_iff.1 y;have bT:(mJ ops tmps f)[d]? =some (f c):=by
   have:=KO f ops.toList 0 tmps Y c u d (by simpa using bR) bS;simpa[mJ]using this
  have a5:Region.wanted o (yielded ops a.tmps)=true↔f c=a3:=by
   rw[s.act];simp only[Region.wanted,E,yielded,y,Option.bind_some,bT]
   cases c3:f c<;>simp
  by_cases H:f c=a3
  .rw[if_pos (a5.2 H)];exact .inl (a2 (z.1 H))
  .rw[if_neg (λC=>H (a5.1 C)),s.act];exact next undef i s.grown (λl _ j=>s.pre l j) (λc v j _=>s.done c v j) (z.2 H)
theorem QE(S:oQ ops tmps.size=true)(Z:∀b i m,G w i->R b i m->G w m)(a0:∀L b i m,b≠L->G0 L w i->R b i m->G0 L w m)
  (a1:∀b d T i m,b≠d->G w i->R d i m->post b T i->post b T m)
  (a2:FH P ops tmps df w G G0 R post D)
  (U:∀f i,G w i->(∀b,b<ops.size->post b (f b) i)->(∃c:Nat->Bool,(∀b,b<ops.size->c b=true)/\D c f i)->Q .normal ⟨mJ ops tmps f,df⟩ i):
  ∀(v:Nat) (c:Array Bool) (a:Act) (i:World) (f:Nat->Value),c.size=ops.size->(List.range ops.size).countP (λb=> !c.getD b true)<=v->
   (∀d C,ops[d]? =some C->c.getD d false=true->∀e∈C.after,Region.binds .any e=true->c.getD e.on false=true)->
   BE ops tmps df w G G0 post D (λb=>c.getD b false) a i f->wpAny P .any ops Q v c a i:=by
 have V:=S;simp only[oQ,aU]at V;have a3:=sQ ops.toList 0 V.1.2
 have E:∀c:Array Bool,c.size=ops.size->Region.ready .any ops c=[]->∀b,b<ops.size->c.getD b false=true:=by
  intro c s n b
  induction b using Nat.strongRecOn with
  |_ b x=>
   intro h
   cases F:c.getD b false with
   |true=>rfl
   |false=>
    have X:b∈Region.ready .any ops c:=by
     rw[mem_ready];have y:b<c.size:=om;refine⟨by simpa[y]using F,ops[b],by simp[h],λe H I=> ?_⟩;have:=a3 b ops[b] (by simp[h]) e H I;exact x e.on om om
    rw[n]at X
    cases X
 intro v
 induction v with
 |zero=>
  intro c a i f s a4 M j
  have J:∀b,b<ops.size->c.getD b true=true:=by
   intro b h;have p:(List.range ops.size).countP (λb=> !c.getD b true)=0:=om;have:=List.countP_eq_zero.1 p b (gO.2 h);simpa using this
  have n:Region.ready .any ops c=[]:=by
   refine List.eq_nil_iff_forall_not_mem.2 λb h=> ?_
   obtain⟨p,o,z,_⟩:=mem_ready.1 h;have N:b<ops.size:=(cN.1 z).1;rw[J b N]at p
   cases p
  refine⟨n,?_⟩;rw[j.act];exact U f i j.grown (λb h=>j.done b h (E c s n b h)) ⟨_,λb h=>E c s n b h,j.joint⟩
 |succ v x=>
  intro c a i f s a4 M j;refine⟨λn=>by rw[j.act];exact U f i j.grown (λb h=>j.done b h (E c s n b h)) ⟨_,λb h=>E c s n b h,j.joint⟩,λb h=> ?_⟩;obtain⟨p,o,z,J⟩:=mem_ready.1 h;have N:b<ops.size:=(cN.1 z).1;have y:b<c.size:=om;have a5:c.getD b false=false:=by simpa[y]using p
  refine BE.step S Z a0 a1 a2 j z a5 J M λa6 w' a7 a9=> ?_
  refine x (c.setIfInBounds b true) a6 w' a7 (by simpa using s) ?_ ?_ ?_
  .have:(List.range ops.size).countP (λd=> !(c.setIfInBounds b true).getD d true)<(List.range ops.size).countP (λd=> !c.getD d true):=by
    refine countP_lt _ _ _ (λd q u=> ?_) b (gO.2 N) (by simpa using p) (by simp[y])
    by_cases l:b=d
    .subst l;simpa using p
    .rw[getD_set_ne true l]at u;exact u
   omega
  .intro d C q F e H I
   by_cases l:b=d
   .subst l;rw[z]at q
    cases q
    exact getD_set_true (J e H I)
   .rw[getD_set_ne false l]at F;exact getD_set_true (M d C q F e H I)
  .have:(λd=>(c.setIfInBounds b true).getD d false)=(λd=>if d=b then true else c.getD d false):=by
    funext d
    by_cases l:d=b
    .subst l;simp[y]
    .rw[getD_set_ne false (Ne.symm l),if_neg l]
   rw[this];exact a9
where
 countP_lt (A K:Nat->Bool) (r:List Nat) (u:∀d∈r,A d=true->K d=true) (b:Nat) (h:b∈r) (b0:K b=true) (O:A b=false):r.countP A<r.countP K:=by
  induction r with
  |nil=>cases h
  |cons Y r x=>
   simp only[List.countP_cons];have b3:r.countP A<=r.countP K:=List.countP_mono_left λd q O=>u d (aN _ q) O
   rcases aS.1 h with rfl |h
   .simp[b0,O];omega
   .have:=x (λd q=>u d (aN _ q)) h;have b1:=u Y (aT ..)
    cases b2:A Y
    .simp;omega
    .simp[b1 b2];omega
theorem nN(p:P.follows .mixedOrders=true)(q:oQ ops tmps.size=true)(r:∀f,D (λ_=>false) f {w with drawn:=w.drawn+1})(s:G w {w with drawn:=w.drawn+1})(u:∀h,G0 h w {w with drawn:=w.drawn+1})(v:∀i b c,G w b->R i b c->G w c)(x:∀h i b c,i≠h->G0 h w b->R i b c->G0 h w c)
  (y:∀i j m b c,i≠j->G w b->R j b c->post i m b->post i m c)
  (z:FH P ops tmps df w G G0 R post D)
  (A:∀f b,G w b->(∀i,i<ops.size->post i (f i) b)->(∃n:Nat->Bool,(∀i,i<ops.size->n i=true)/\D n f b)->Q .normal ⟨mJ ops tmps f,df⟩ b):
  (Code.region id ops true).wp P Q ⟨tmps,df⟩ w:=by
 refine wp_region_any p (QE q v x y z A ops.size _ _ _ (λi=>tmps.getD (((ops[i]?).bind (·.dst)).getD 0) undef) sm ?_ ?_ ?_)
 .exact aE List.countP_le_length sm
 .intro j _ C l;have E:j<ops.size:=(cN.1 C).1;simp[E]at l
 .refine⟨?_,s,λh _=>u h,?_,?_,?_⟩
  .congr 1;refine(DP tmps _ ops.toList 0 tmps rfl λi o d hi hd=> ?_).symm;have F:ops[i]? =some o:=by simpa using hi
   simp only[aY,F,Option.bind_some,hd,Option.getD_some]
  .intro i hi l;simp[hi]at l
  .exact nT3
  .have e:(λi=>(Array.replicate ops.size false).getD i false)=λ_=>false:=by
    funext i;by_cases H:i<ops.size<;>simp [H]
   rw[e];exact r _
end
def lY(post:Nat->Value->World->Prop)(f:Nat->Value)(w:World):List Edge->Prop
 | []=>True
 |e::l=>(Region.binds .any e=true->post e.on (f e.on) w)/\lY post f w l
def oV(tmps:Array Value)(f:Nat->Value)(k:Nat):List (Nat×Nat×Nat)->Prop
 | []=>True
 | (k',j,d)::l=>(k'=k->f j=tmps.getD d undef)/\oV tmps f k l
def pN(ops:Array Oper):List (Nat×Nat×Nat)->Bool
 | []=>true
 | (k,j,d)::l=>(match ops[j]? with |some o=>o.dst==some d&&(o.after.toList.any λe=>Region.binds .any e&&e.on==k) |none=>false)&&pN ops l
def nT(G0:Nat->Prop)(k:Nat):List (Nat×Nat)->Prop
 | []=>True
 | (k',s)::l=>(k'=k->G0 s)/\nT G0 k l
def L9(ops:Array Oper):List (Nat×Nat)->Bool
 | []=>true
 | (k,s)::l=>yC ops k 3 s&&L9 ops l
theorem EW{ops:Array Oper}{k:Nat}{G0:Nat->Prop}(d:∀b,yC ops k 3 b=true->G0 b):
  ∀(c:List (Nat×Nat)),L9 ops c=true->nT G0 k c
 | [],_=>trivial
 | (k',b)::c,hok=>by
  simp only[L9,aU]at hok;refine⟨λh=> ?_,EW d c hok.2⟩;subst h;exact d b hok.1
def WT(P:Program)(fr:(Nat->Value)->Array Value)(lates:List (Nat×Nat×Nat))(pres:List (Nat×Nat))(tmps:Array Value)(df:List Deferred)(w:World)(G:World->World->Prop)(G0:Nat->World->World->Prop)(R:World->World->Prop)(post:Nat->Value->World->Prop)(k:Nat)(o:Oper):Prop:=
 ∀f w1,G w w1->nT (λs=>G0 s w w1) k pres->lY post f w1 o.after.toList->oV tmps f k lates->kM P o ⟨fr f,df⟩ f w1 R (post k)
def FV(P:Program)(fr:(Nat->Value)->Array Value)(lates:List (Nat×Nat×Nat))(pres:List (Nat×Nat))(tmps:Array Value)(df:List Deferred)(w:World)(G:World->World->Prop)(G0:Nat->World->World->Prop)(R:Nat->World->World->Prop)(post:Nat->Value->World->Prop):List Oper->Nat->Prop
 | [],_=>True
 |o::l,k=>WT P fr lates pres tmps df w G G0 (R k) post k o/\FV P fr lates pres tmps df w G G0 R post l (k+1)
theorem rO{post:Nat->Value->World->Prop}{f:Nat->Value}{w:World}:∀(b:List Edge),(∀e∈b,Region.binds .any e=true->post e.on (f e.on) w)->lY post f w b
 | [],_=>trivial
 |e::b,h=>⟨h e (aT ..),rO b λc d=>h c (aN _ d)⟩
theorem pH{ops:Array Oper}{tmps:Array Value}{f:Nat->Value}{k:Nat}(j:∀c i d,ops[c]? =some i->i.dst=some d->(i.after.toList.any λe=>Region.binds .any e&&e.on==k)=true->f c=tmps.getD d undef):
  ∀(h:List (Nat×Nat×Nat)),pN ops h=true->oV tmps f k h
 | [],_=>trivial
 | (k',c,d)::h,hok=>by
  simp only[pN,aU]at hok;refine⟨λl=> ?_,pH j h hok.2⟩;subst l;have b:=hok.1
  split at b
  .rename_i o m
   simp only[aU,beq_iff_eq]at b;exact j c o d m b.1 b.2
  .cases b
theorem LH{P:Program}{d:(Nat->Value)->Array Value}{i:List (Nat×Nat×Nat)}{j:List (Nat×Nat)}{tmps:Array Value}{df:List Deferred}{w:World}{G:World->World->Prop}{G0:Nat->World->World->Prop}{R:Nat->World->World->Prop}{post:Nat->Value->World->Prop}:
  ∀(c:List Oper) (k:Nat),FV P d i j tmps df w G G0 R post c k->∀b o,c[b]? =some o->WT P d i j tmps df w G G0 (R (k+b)) post (k+b) o
 | [],_,_,b,o,h=>by simp at h
 |x::c,k,hs,b,o,h=>by
  cases b with
  |zero=>
   simp only[bL,Option.some.injEq]at h;subst h;exact hs.1
  |succ b=>
   have:=LH c (k+1) hs.2 b o (by simpa using h)
   rwa [show k+1+b=k+(b+1)by omega]at this
def n5(post:Nat->Value->World->Prop)(f:Nat->Value)(w:World):Nat->Nat->Prop
 |0,_=>True
 |n+1,k=>post k (f k) w/\n5 post f w n (k+1)
theorem pY{post:Nat->Value->World->Prop}{f:Nat->Value}{w:World}:∀(c k:Nat),(∀b,k<=b->b<k+c->post b (f b) w)->n5 post f w c k
 |0,_,_=>trivial
 |c+1,k,h=>⟨h k lr om,pY c (k+1) λb _ _=>h b om om⟩
variable{n:List Oper}
theorem DA{P:Program}{id:Nat}{Q:Exit->Act->World->Prop}{tmps:Array Value}{df:List Deferred}{w:World}
  (G:World->World->Prop) (G0:Nat->World->World->Prop) (R:Nat->World->World->Prop) (post:Nat->Value->World->Prop) (j:List (Nat×Nat×Nat)) (l:List (Nat×Nat))
  (r:P.follows .mixedOrders=true) (h:(oQ n.toArray tmps.size&&pN n.toArray j&&L9 n.toArray l)=true) (hfr:∀f,mJ n.toArray tmps f=q f)
  (s:G w w.drew) (u:∀b,G0 b w w.drew) (v:∀i w1 c,G w w1->R i w1 c->G w c) (x:∀b i w1 c,i≠b->G0 b w w1->R i w1 c->G0 b w c)
  (y:∀i m p w1 c,i≠m->G w w1->R m w1 c->post i p w1->post i p c)
  (z:FV P q j l tmps df w G G0 R post n 0)
  (hend:∀f w1,G w w1->n5 post f w1 n.length 0->Q .normal ⟨q f,df⟩ w1):
  (Code.region id n.toArray true).wp P Q ⟨tmps,df⟩ w:=by
 simp only[aU]at h;refine nN (D:=λ_ _ _=>True) r h.1.1 (λ_=>trivial) s u v x y ?_ ?_
 .intro i o A _ f w1 _ _ _ hG C hp E;have:=LH n 0 z i o (by simpa using A);rw[aY]at this;rw[hfr];refine kM.mono (λ_ d=>d) (λ_ _ _ d=>⟨d,trivial⟩) (λd=>⟨d,trivial⟩) ?_;exact this f w1 hG (EW (λb F=>C b (FZ 3 b F)) l h.2) (rO _ λe H I=>hp e (bU.1 H) I) (pH E j h.1.2)
 .exact jA4
def pl(L:List (Value->World->Prop))(i:Nat):Value->World->Prop:=L.getD i λ_ _=>True
def isV(v:Value):Value->World->Prop:=λu _=>u=v
def C4(Rel:World->World->Prop):List (Value->World->Prop)->Prop
 | []=>True
 |p::l=>(∀v w1 w2,Rel w1 w2->p v w1->p v w2)/\C4 Rel l
def vK(Rel:World->World->Prop):Nat->List (Value->World->Prop)->Prop
 |_,[]=>True
 |0,_::l=>C4 Rel l
 |s+1,p::l=>(∀v w1 w2,Rel w1 w2->p v w1->p v w2)/\vK Rel s l
theorem yB{m:World->World->Prop}:∀(j:List (Value->World->Prop)),C4 m j->∀b c d i,m d i->pl j b c d->pl j b c i
 | [],_,b,c,d,i,_,h=>by simp[pl]
 |p::l,hL,b,c,d,i,hr,h=>by
  cases b with
  |zero=>exact hL.1 c d i hr h
  |succ b=>exact yB l hL.2 b c d i hr h
theorem uB{n:World->World->Prop}:∀(j:Nat) (m:List (Value->World->Prop)),vK n j m->∀b,b≠j->∀c d i,n d i->pl m b c d->pl m b c i
 |_,[],_,b,_,c,d,i,_,h=>by simp[pl]
 |0,p::l,hL,b,hi,c,d,i,hr,h=>by
  cases b with
  |zero=>exact absurd rfl hi
  |succ b=>exact yB l hL b c d i hr h
 |j+1,p::l,hL,b,hi,c,d,i,hr,h=>by
  cases b with
  |zero=>exact hL.1 c d i hr h
  |succ b=>exact uB j l hL.2 b (λe=>hi (by rw[e])) c d i hr h
theorem uR{P:Program}{id:Nat}{Q:Exit->Act->World->Prop}{tmps:Array Value}{df:List Deferred}{w:World}
  (g b:Nat) (h:List (Value->World->Prop)) (r:List (Nat×Nat×Nat)) (s:List Nat)
  (x:P.follows .mixedOrders=true) (y:(oQ n.toArray tmps.size&&pN n.toArray r&&L9 n.toArray (s.map λk=>(k,b)))=true) (z:∀f,mJ n.toArray tmps f=q f)
  (A:C4 Ext h) (C:vK (Chg g) b h)
  (E:FV P q r (s.map λk=>(k,b)) tmps df w (Chg g) (λc=>if c=b then Ext elseλ_ _=>True) (λc=>if c=b then Chg g else Ext) (pl h) n 0)
  (F:∀f d,Chg g w d->n5 (pl h) f d n.length 0->Q .normal ⟨q f,df⟩ d):
  (Code.region id n.toArray true).wp P Q ⟨tmps,df⟩ w:=
 DA (Chg g) (λc=>if c=b then Ext elseλ_ _=>True) (λc=>if c=b then Chg g else Ext) (pl h) r (s.map λk=>(k,b)) x y z ((Ext.refl w).drew.chg g) (λc=>by split;exact(Ext.refl w).drew;trivial)
  (λi d m j k=>by
   by_cases p:i=b
   .rw[if_pos p]at k;exact j.trans k
   .rw[if_neg p]at k;exact j.trans (k.chg g))
  (λc i d m p j k=>by
   by_cases l:c=b
   .subst l;rw[if_pos rfl]at j ⊢;rw[if_neg p]at k;exact j.trans k
   .rw[if_neg l];trivial)
  (λi c u d m _ _ k v=>by
   by_cases l:c=b
   .rw[if_pos l]at k;exact uB b h C i om u d m k v
   .rw[if_neg l]at k;exact yB h A i u d m k v)
  E F
def Bx(t:TypeId)(w:World)(g:Nat)(cs:Array Value):Prop:=w.heap[g]? =some (.cells cs t (0,0))
section
variable {t:TypeId} {w w':World} {g:Nat} {cs:Array Value}
theorem Bx.new(w:World)(t:TypeId)(cs:Array Value):Bx t (w.alloc (.cells cs t)) w cs:=heap_alloc_new w _
theorem Bx.ext(b:Bx t w g cs)(c:Ext w w'):Bx t w' g cs:=c.blk b
theorem Bx.chg(c:Bx t w g cs)(d:Chg b w w')(h:g≠b):Bx t w' g cs:=d.blk c h
theorem Bx.cell(c:Bx t w g cs)(b:Nat):w.cell? (g,b)=cs[b]? :=cell_of_row w g b _ t _ c
theorem Bx.free(c:Bx t w g cs)(b:Nat):w.frozen? (g,b)=false:=frozen_of_row w g b _ t c
def cAll(w:World)(g:Nat)(cs:Array Value):List Nat->Prop
 | []=>True
 | i::l=>w.cell? (g,i)=cs[i]? /\cAll w g cs l
def fAll(w:World)(g:Nat):List Nat->Prop
 | []=>True
 | i::l=>w.frozen? (g,i)=false/\fAll w g l
theorem Bx.cl{t:TypeId}{w:World}{g:Nat}{cs:Array Value}(c:Bx t w g cs):∀b,cAll w g cs b
 | []=>trivial
 | i::b=>⟨c.cell i,c.cl b⟩
theorem Bx.fl{t:TypeId}{w:World}{g:Nat}{cs:Array Value}(c:Bx t w g cs):∀b,fAll w g b
 | []=>trivial
 | i::b=>⟨c.free i,c.fl b⟩
theorem Bx.set(d:Bx t w g cs)(b:Nat)(c:Value):Bx t (w.setCell (g,b) c) g (cs.setIfInBounds b c):=heap_setCell_same w g b _ t _ d
theorem Bx.lt(b:Bx t w g cs):g<w.heap.size:=qJ b
theorem Bx.setRow(c:Bx t w g cs)(b:Array Value):Bx t (w.setRow g b) g b:=by
 unfold Bx World.setRow at*;simp only[Array.getElem?_modify,if_pos rfl,c];rfl
end
theorem Chg.setRow(w:World)(g:Nat)(cs:Array Value):Chg g w (w.setRow g cs):=
 ⟨rfl,rfl,rfl,by simp[World.setRow],λk _ b=>by
  have:k≠g:=by simpa using b
  unfold World.setRow;simp only[Array.getElem?_modify];rw[if_neg (λe=>this e.symm)]⟩
def mV(bs:List Nat)(w w':World):Prop:=w'.os=w.os/\w'.tape=w.tape/\w'.output=w.output/\w.heap.size<=w'.heap.size/\∀k,k<w.heap.size->k∉bs->w'.heap[k]? =w.heap[k]?
theorem mV.trans{c:List Nat}{a d h:World}(b:mV c a d)(k:mV c d h):mV c a h:=
 ⟨k.1.trans b.1,k.2.1.trans b.2.1,k.2.2.1.trans b.2.2.1,aE b.2.2.2.1 k.2.2.2.1,λi j l=>(k.2.2.2.2 i (cD j b.2.2.2.1) l).trans (b.2.2.2.2 i j l)⟩
theorem Ext.chgS(c:List Nat){a:World}(b:Ext a m):mV c a m:=⟨World.grownBy.os b,World.grownBy.tape b,World.grownBy.output b,b.size,λ_ d _=>b.heap d⟩
theorem Chg.chgS{g:Nat}{a:World}(b:Chg g a m)(c:g∈d):mV d a m:=⟨World.grownBy.os b,World.grownBy.tape b,World.grownBy.output b,b.size,λk h i=>b.heap h λe=>i (by rw[e];exact c)⟩
theorem mV.nil{w w':World}(b:mV [] w w'):Ext w w':=⟨b.1,b.2.1,b.2.2.1,b.2.2.2.1,λk c _=>b.2.2.2.2 k c sm⟩
theorem mV.blk{w w':World}(c:mV d w w'){g:Nat}{o:Obj}(b:w.heap[g]? =some o)(h:g∉d):w'.heap[g]? =some o:=(c.2.2.2.2 g (qJ b) h).trans b
theorem Bx.chgS{t:TypeId}{w w':World}{g:Nat}{cs:Array Value}(b:Bx t w g cs)(c:mV d w w')(h:g∉d):Bx t w' g cs:=c.blk b h
theorem Ext.stepS{a w w':World}(b:Ext a w)(k:mV d w w')(i:∀g∈d,a.heap.size<=g):Ext a w':=
 ⟨k.1.trans (World.grownBy.os b),k.2.1.trans (World.grownBy.tape b),k.2.2.1.trans (World.grownBy.output b),aE b.size k.2.2.2.1,λc h _=>(k.2.2.2.2 c (cD h b.size) (λj=>by have:=i c j;omega)).trans (b.heap h)⟩
structure PP (S:Nat) where
 c:Bool
 p:Value->World->Prop
 m:∀v w1 w2,Ext w1 w2->p v w1->p v w2
 m2:c=false->∀g,g<S->∀v w1 w2,Chg g w1 w2->p v w1->p v w2
def kL{S:Nat}(v:Value):PP S:=⟨false,λu _=>u=v,λ_ _ _ _ h=>h,λ_ _ _ _ _ _ _ h=>h⟩
instance{S}:Coe Value (PP S):=⟨kL⟩
instance{S}(g o:Nat):CoeDep (Nat×Nat) (g,o) (PP S):=⟨kL (.pointer (some ⟨g,o,none⟩))⟩
instance{S}(w:World)(o:Nat):CoeDep (World×Nat) (w,o) (PP S):=⟨kL (.pointer (some ⟨w.heap.size,o,none⟩))⟩
instance{S}(w:World)(n c:Nat):CoeDep (World×Nat×Nat) (w,n,c) (PP S):=⟨kL (.slice (some ⟨w.heap.size,0,none⟩) n c)⟩
instance{S}(g o n c:Nat):CoeDep (Nat×Nat×Nat×Nat) (g,o,n,c) (PP S):=⟨kL (.slice (some ⟨g,o,none⟩) n c)⟩
instance{S}(g n c:Nat):CoeDep (Nat×Nat×Nat) (g,n,c) (PP S):=⟨kL (.slice (some ⟨g,0,none⟩) n c)⟩
instance{S}(a:Option Addr)(n c:Nat):CoeDep (Option Addr×Nat×Nat) (a,n,c) (PP S):=⟨kL (.slice a n c)⟩
instance{S}:CoeDep Unit () (PP S):=⟨kL (.slice none 0 0)⟩
def kP{S:Nat}:PP S:=⟨false,λ_ _=>True,λ_ _ _ _ h=>h,λ_ _ _ _ _ _ _ h=>h⟩
def zO{S:Nat}(F:Value->Prop):PP S:=⟨false,λu _=>F u,λ_ _ _ _ h=>h,λ_ _ _ _ _ _ _ h=>h⟩
def uA{S:Nat}(k:IntKind)(B n:Nat):PP S:=⟨true,λu w=>IsN k B w u n,λ_ _ _ h hp=>hp.ext h,λh=>by cases h⟩
def nS{S:Nat}(e:TypeId)(k:IntKind)(B n:Nat):PP S:=⟨false,λu w=>FrN e k B S w u n,λ_ _ _ h hp=>hp.ext h,λ_ _ hg _ _ _ h hp=>hp.chg h hg⟩
structure St (S:Nat) where
 s:Nat
 g:Nat
 t:TypeId
 F:PP S
def yT{S:Nat}:List (St S)->Nat->Option (St S)
 | [],_=>none
 |x::l,k=>if k=x.s then some x else yT l k
theorem qS{c:List (St b)}{k:Nat}{d:St b}(h:yT c k=some d):d∈c/\d.s=k:=by
 induction c with
 |nil=>cases h
 |cons i c ih=>
  simp only[yT]at h;exact Tw0
def wM{S:Nat}(w:World)(sts:List (St S))(L:List (PP S))(k:Nat)(v:Value)(w1:World):Prop:=
 match yT sts k with
 |some x=>∃cs,Bx x.t w1 x.g cs/\x.F.p (.agg cs) w1
 |none=>((L.getD k kP).c=true->Ext w w1)->(L.getD k kP).p v w1
theorem qH{post:Nat->Value->World->Prop}{f:Nat->Value}{w:World}:∀(c:List Edge) (d b:Nat),(match c[d]? with |some e=>Region.binds .any e&&e.on==b |none=>false)=true->lY post f w c->post b (f b) w
 | [],d,b,h,_=>by simp at h
 |e::c,0,b,h,hp=>by
  simp only[bL,aU,beq_iff_eq]at h;rw[<-h.2];exact hp.1 h.1
 |e::c,d+1,b,h,hp=>qH c d b (by simpa using h) hp.2
theorem kO{w:World}{h:List (St b)}{d:List (PP b)}{f:Nat->Value}(j:lY (wM w h d) f m u)(i c:Nat)
  (l:(match u[i]? with |some e=>Region.binds .any e&&e.on==c |none=>false)=true) (n:yT h c=none) (p:(d.getD c kP).c=true->Ext w m):(d.getD c kP).p (f c) m:=by
 have:=qH u i c l j;unfold wM at this;rw[n]at this;exact this p
theorem rV{post:Nat->Value->World->Prop}{f:Nat->Value}{w:World}:∀(c k b:Nat),k<=b->b<k+c->n5 post f w c k->post b (f b) w
 |0,k,b,h1,h2,_=>om
 |c+1,k,b,h1,h2,h=>by
  by_cases d:k=b
  .subst d;exact h.1
  .exact rV c (k+1) b om om h.2
theorem sP{w:World}{c:List (St h)}{d:List (PP h)}{f:Nat->Value}(i:n5 (wM w c d) f m b 0)(k:Nat)(j:k<b):wM w c d k (f k) m:=
 rV b 0 k zl om i
theorem rM{w:World}{i:List (St b)}{d:List (PP b)}{f:Nat->Value}(j:n5 (wM w i d) f m h 0)(c:Nat)(l:c<h)(n:yT i c=none)(p:(d.getD c kP).c=true->Ext w m):(d.getD c kP).p (f c) m:=by
 have:=sP j c l;unfold wM at this;rw[n]at this;exact this p
def wD(ops:Array Oper):List Nat->List Nat->Bool
 |_,[]=>true
 |done,k::rest=>(done.any λj=>(ops[j]?).any λo=>o.after.toList.any λe=>Region.binds .any e&&e.on==k)&&wD ops (k::done) rest
theorem wW{ops:Array Oper}{l:Nat}:∀(rest i:List Nat),(∀b∈i,Anc ops b l)->wD ops i rest=true->∀k∈rest,Anc ops k l
 | [],_,_,_,k,c=>by cases c
 |p::rest,i,hd,h,k,c=>by
  simp only[wD,aU]at h;obtain⟨r,s⟩:=h;obtain⟨b,d,j⟩:=fM.1 r
  cases m:ops[b]? with
  |none=>rw [m]at j;cases j
  |some o=>
   rw[m]at j;obtain⟨e,u,n⟩:=fM.1 j;simp only[aU,beq_iff_eq]at n
   have q:Anc ops p l:=by
    refine Anc.trans (.edge m (bU.1 u) n.1 ?_) (hd b d);rw[n.2];exact .self
   rcases aS.1 c with rfl |c
   .exact q
   .exact wW rest (p::i) (λb d=>by rcases aS.1 d with rfl |d;exact q;exact hd b d) s k c
def OweD{S:Nat}(P:Program)(fr:(Nat->Value)->Array Value)(df:List Deferred)(w:World)(sts:List (St S))(L:List (PP S))(lates:List (Nat×Nat×Nat))(tmps:Array Value)(pre:List Nat)(k:Nat)(o:Oper):Prop:=
 ∀f w1,(if pre.contains k then Ext w w1 else mV (sts.map (·.g)) w w1)->lY (wM w sts L) f w1 o.after.toList->oV tmps f k lates->
  match yT sts k with
  |some x=>w1.heap[x.g]? =w.heap[x.g]? ->kM P o ⟨fr f,df⟩ f w1 (Chg x.g) (λ_ w2=>∃cs,Bx x.t w2 x.g cs/\x.F.p (.agg cs) w2)
  |none=>kM P o ⟨fr f,df⟩ f w1 Ext (L.getD k kP).p
def NJ{S:Nat}(P:Program)(fr:(Nat->Value)->Array Value)(df:List Deferred)(w:World)(sts:List (St S))(L:List (PP S))(lates:List (Nat×Nat×Nat))(tmps:Array Value)(pre:List Nat):List Oper->Nat->Prop
 | [],_=>True
 |o::l,k=>OweD P fr df w sts L lates tmps pre k o/\NJ P fr df w sts L lates tmps pre l (k+1)
theorem OT{d:Nat}{P:Program}{i:(Nat->Value)->Array Value}{df:List Deferred}{w:World}{j:List (St d)}{l:List (PP d)}{m:List (Nat×Nat×Nat)}{tmps:Array Value}{n:List Nat}:
  ∀(c:List Oper) (k:Nat),NJ P i df w j l m tmps n c k->∀b o,c[b]? =some o->OweD P i df w j l m tmps n (k+b) o
 | [],_,_,b,o,h=>by simp at h
 |x::c,k,hs,b,o,h=>by
  cases b with
  |zero=>
   simp only[bL,Option.some.injEq]at h;subst h;exact hs.1
  |succ b=>
   have:=OT c (k+1) hs.2 b o (by simpa using h)
   rwa [show k+1+b=k+(b+1)by omega]at this
theorem AB{P:Program}{id:Nat}{l:List Oper}{Q:Exit->Act->World->Prop}{tmps:Array Value}{df:List Deferred}{w:World}
  (sts:List (St w)) (L:List (PP w)) (p:List (Nat×Nat×Nat)) (r:List Nat)
  (F:P.follows .mixedOrders=true) (A:(oQ l.toArray tmps.size&&pN l.toArray p&&(sts.map (·.s)).all λs=>wD l.toArray [s] (r.filter (· !=s)))=true)
  (hfr:∀f,mJ l.toArray tmps f=q f)
  (u:∀x∈sts,x.g<w.heap.size/\x.F.c=false) (hs:∀x∈sts,yT sts x.s=some x) (C:∀x∈sts,∀b∈sts,x.s≠b.s->x.g≠b.g)
  (H:NJ P q df w sts L p tmps r l 0)
  (hend:∀f w1,mV (sts.map (·.g)) w w1->n5 (wM w sts L) f w1 l.length 0->Q .normal ⟨q f,df⟩ w1):
  (Code.region id l.toArray true).wp P Q ⟨tmps,df⟩ w:=by
 simp only[aU]at A;obtain⟨⟨I,J⟩,hok3⟩:=A;have K:∀{w1 c:World} {g:Nat},mV (sts.map (·.g)) w w1->w1.heap[g]? =w.heap[g]? ->Chg g w1 c->Ext w c->g<w.heap.size->Ext w w1/\Ext w1 c:=by
  intro w1 c g hG hg hR hE hgl;exact Lt9
 refine nN (D:=λ_ _ _=>True) (G:=mV (sts.map (·.g))) (G0:=λs w w1=>w.heap.size<=w1.heap.size/\∀x,yT sts s=some x->w1.heap[x.g]? =w.heap[x.g]?)
  (R:=λi w1 c=>match yT sts i with |some x=>Chg x.g w1 c/\w1.heap[x.g]? =w.heap[x.g]? |none=>Ext w1 c) (post:=wM w sts L) F I (λ_=>trivial) ((Ext.refl w).drew.chgS _) (λs=>⟨(Ext.refl w).drew.size,λ_ _=>rfl⟩) ?_ ?_ ?_ ?_ ?_
 .intro i w1 c hG hR
  cases hx:yT sts i with
  |none=>rw [hx]at hR;exact hG.trans (hR.chgS _)
  |some x=>rw [hx]at hR;exact hG.trans (hR.1.chgS (bJ.2 ⟨x,(qS hx).1,rfl⟩))
 .intro s i w1 c his h hR;have M:w1.heap.size<=c.heap.size:=by
   cases hx:yT sts i with
   |none=>rw [hx]at hR;exact hR.size
   |some x=>rw [hx]at hR;exact hR.1.size
  refine⟨aE h.1 M,λb d=> ?_⟩;have V:=(u b (qS d).1).1
  cases hx:yT sts i with
  |none=>rw [hx]at hR;exact(hR.heap (by have:=h.1;omega)).trans (h.2 b d)
  |some x=>
   rw[hx]at hR;have:=C b (qS d).1 x (qS hx).1 (by rw[(qS d).2,(qS hx).2];omega);exact(hR.1.heap (by have:=h.1;omega) this).trans (h.2 b d)
 .intro i j v w1 c _ hG hR hp;unfold wM at hp ⊢
  cases n:yT sts j with
  |none=>
   rw[n]at hR
   cases hxi:yT sts i with
   |some x=>
    rw[hxi]at hp;obtain⟨cs,y,h2⟩:=hp;exact⟨cs,y.ext hR,x.F.m _ _ _ hR h2⟩
   |none=>
    exact Yu6
  |some x=>
   rw[n]at hR;have z:=u x (qS n).1
   cases hxi:yT sts i with
   |some b=>
    rw[hxi]at hp;obtain⟨cs,y,h2⟩:=hp;have:=C b (qS hxi).1 x (qS n).1 (by rw[(qS hxi).2,(qS n).2];omega);exact⟨cs,y.chg hR.1 this,b.F.m2 (u b (qS hxi).1).2 _ z.1 _ _ _ hR.1 h2⟩
   |none=>
    rw[hxi]at hp;intro hE
    cases hc:(L.getD i kP).c with
    |true=>
     obtain⟨e1,N⟩:=K hG hR.2 hR.1 (hE hc) z.1;exact(L.getD i kP).m _ _ _ N (hp λ_=>e1)
    |false=>exact (L.getD i kP).m2 hc _ z.1 _ _ _ hR.1 (hp λh=>by rw[hc]at h;cases h)
 .intro i o O _ f w1 _ _ _ hG hpre hp S;have E:=OT l 0 H i o (by simpa using O);rw[aY]at E;rw[hfr];have hE:(if r.contains i then Ext w w1 else mV (sts.map (·.g)) w w1):=Bo2;have hg:=E f w1 hE (rO _ λe T U=>hp e (bU.1 T) U) (pH S p J);unfold wM
  cases hx:yT sts i with
  |none=>
   exact YM4
  |some x=>
   exact Ia2
 .exact jA4
theorem tE{w:World}{j:List (St b)}{d:List (PP b)}{f:Nat->Value}(p:lY (wM w j d) f m u)(l c:Nat)
  (h:(match u[l]? with |some e=>Region.binds .any e&&e.on==c |none=>false)=true) (q:yT j c=none) (r:d[c]? =some (kL i)):f c=i:=by
 have n:d.getD c kP=kL i:=by rw[aO,r];rfl
 have:=kO p l c h q (by rw[n];intro h;cases h);rw[n]at this;exact this
theorem wpP{P:Program}{id:Nat}{Q:Exit->Act->World->Prop}{tmps:Array Value}{df:List Deferred}{w:World}
  (b:List (St w)) (d:List (PP w)) (h:List (Nat×Nat×Nat)) (i:List Nat)
  (p:∀c∈b,c.g<w.heap.size/\c.F.c=false) (r:∀c∈b,yT b c.s=some c) (s:∀c∈b,∀l∈b,c.s≠l.s->c.g≠l.g)
  (u:NJ P q df w b d h tmps i n 0)
  (v:∀f j,mV (b.map (·.g)) w j->n5 (wM w b d) f j n.length 0->Q .normal ⟨q f,df⟩ j)
  (x:P.follows .mixedOrders=true:=by kernel_rfl) (y:(oQ n.toArray tmps.size&&pN n.toArray h&&(b.map (·.s)).all λm=>wD n.toArray [m] (i.filter (· !=m)))=true:=by kernel_rfl)
  (z:∀f,mJ n.toArray tmps f=q f:=by intro f;simp only[mJ,mO,aQ,aV,aZ,Nat.reduceAdd];rfl):
  (Code.region id n.toArray true).wp P Q ⟨tmps,df⟩ w:=AB b d h i x y z p r s u v
theorem wpQ{P:Program}{id:Nat}{Q:Exit->Act->World->Prop}{tmps:Array Value}{df:List Deferred}{w:World}
  (c:List (PP w)) (d:List (Nat×Nat×Nat)) (h:List Nat)
  (m:NJ P q df w [] c d tmps h n 0)
  (p:∀f i,mV (([]:List (St w)).map (·.g)) w i->n5 (wM w [] c) f i n.length 0->Q .normal ⟨q f,df⟩ i)
  (r:P.follows .mixedOrders=true:=by kernel_rfl) (s:(oQ n.toArray tmps.size&&pN n.toArray d&&(([]:List (St w)).map (·.s)).all λj=>wD n.toArray [j] (h.filter (· !=j)))=true:=by kernel_rfl)
  (u:∀f,mJ n.toArray tmps f=q f:=by intro f;simp only[mJ,mO,aQ,aV,aZ,Nat.reduceAdd];rfl):
  (Code.region id n.toArray true).wp P Q ⟨tmps,df⟩ w:=AB [] c d h r s u (λl b=>by cases b) (λl b=>by cases b) (λl b=>by cases b) m p
section
variable {P:Program} {o:Oper} {a:Act} {f:Nat->Value} {w:World} {post:Value->World->Prop}
theorem ab0{fn:Func}(F:FuncId)(xs:Array Operand)(b:Array TypeId)(args:Array Value)(hf:P.funcs[F]? =some fn)(hn:(fn.name== "runtime.NumGoroutine")=false)(hb:fn.body.isNone=false)(hgd:o.guard=none)(ho:o.op= .call {callee:= .value (.func F),args:=xs,argTypes:=b})
  (ha:xs.map a.eval=args) (hc:Calls P F args w λe w'=>∃v,e= .returned v/\Ext w w'/\post v w'):kM P o a f w Ext post:=by
 exact TK0
theorem oC{fn:Func}{F:FuncId}{xs:Array Operand}{ts:Array TypeId}(args:Array Value)(c:P.funcs[F]? =some fn)(d:o.guard=none)(h:o.op= .call {callee:= .value (.func F),args:=xs,argTypes:=ts})
  (i:Calls P F args w λe w'=>∃b,e= .returned b/\Ext w w'/\post b w') (j:(fn.name== "runtime.NumGoroutine")=false:=by kernel_rfl) (l:fn.body.isNone=false:=by kernel_rfl) (m:xs.map a.eval=args:=by kernel_rfl):kM P o a f w Ext post:=
 ab0 F xs ts args c j l d h m i
theorem kZ(b:TypeId)(c:Operand)(g:Nat)(t:TypeId)(cs:Array Value)(d:TypeDesc)(h:o.guard=none)(i:o.op= .load b c)(j:a.eval c= .pointer g)(l:Bx t w g cs)
  (m:P.underlying b=some d) (n:(match d with | .struct _ | .array _ _=>true |_=>false)=true) (p:(P.info? b).map (·.size)=some cs.size) (q:post (.agg cs) w):kM P o a f w Ext post:=by
 unfold kM;rw[h];exact wp_load_row b c i g j t cs _ d l m n p ⟨_,rfl,Ext.refl w,q⟩
theorem mN(c:TypeId)(d h:Operand)(g:Nat)(t:TypeId)(i b:Array Value)(j:Value->World->Prop)(n:o.guard=none)(p:o.op= .store c d h)(q:a.eval d= .pointer g)(r:a.eval h= .agg b)
  (l:Bx t w g i) (s:(P.info? c).map (·.size)=some b.size) (u:i.size=b.size) (v:b.all (·.oneCell')=true) (hF:∀w',Chg g w w'->j (.agg b) w'):
  kM P o a f w (Chg g) (λ_ m=>∃cs,Bx t m g cs/\j (.agg cs) m):=by
 unfold kM;rw[n];exact wp_store_row c d h p g b q r t i l s u v ⟨_,rfl,Chg.setRow w g b,b,l.setRow b,hF _ (Chg.setRow w g b)⟩
end
section
variable {P:Program} {fn:Func} {R:Ending->World->Prop} {a:Act} {w:World}
theorem l8(d:Tmp)(b:TypeId)(g:Nat)(t:TypeId)(cs:Array Value)(c:TypeDesc)(h:fn.results=#[.cell d b])(i:a.tmps.getD d undef= .pointer g)(j:Bx t w g cs)
  (l:P.underlying b=some c) (m:(match c with | .struct _ | .array _ _=>true |_=>false)=true) (n:(P.info? b).map (·.size)=some cs.size) (p:a.defers=[]) (q:R (.returned (.agg cs)) w):bodyPost P fn R .ret a w:=
 bodyPost_ret (results_cell_row h a.tmps w g t cs _ c i j l m n) p q
theorem nP(p b:Tmp)(ty:TypeId)(g:Nat)(t:TypeId)(cs:Array Value)(d:TypeDesc)(c:Value)(h:fn.results=#[.cell p ty,.tmp b])(hp:a.tmps.getD p undef= .pointer g)(i:a.tmps.getD b undef=c)(hg:Bx t w g cs)
  (hu:P.underlying ty=some d) (hd:(match d with | .struct _ | .array _ _=>true |_=>false)=true) (hi:(P.info? ty).map (·.size)=some cs.size) (j:a.defers=[]) (l:R (.returned (.tuple #[.agg cs,c])) w):bodyPost P fn R .ret a w:=by
 subst i;refine bodyPost_ret (v:= .tuple #[.agg cs,a.tmps.getD b undef]) ?_ j l;exact rY7
theorem IE(i j l:Tmp)(c d:TypeId)(g h:Nat)(t t2:TypeId)(cs b:Array Value)(m d2:TypeDesc)(n:Value)(p:fn.results=#[.cell i c,.cell j d,.tmp l])(q:a.tmps.getD i undef= .pointer (some ⟨g,0,none⟩))(r:a.tmps.getD j undef= .pointer (some ⟨h,0,none⟩))(s:a.tmps.getD l undef=n)(u:Bx t w g cs)(v:Bx t2 w h b)
  (x:P.underlying c=some m) (y:(match m with | .struct _ | .array _ _=>true |_=>false)=true) (z:(P.info? c).map (·.size)=some cs.size)
  (A:P.underlying d=some d2) (C:(match d2 with | .struct _ | .array _ _=>true |_=>false)=true) (E:(P.info? d).map (·.size)=some b.size) (F:a.defers=[]) (H:R (.returned (.tuple #[.agg cs,.agg b,n])) w):bodyPost P fn R .ret a w:=by
 subst s;refine bodyPost_ret (v:= .tuple #[.agg cs,.agg b,a.tmps.getD l undef]) ?_ F H;have I:a.tmps[i]?.getD undef= .pointer (some ⟨g,0,none⟩):=by simpa using q
 have J:a.tmps[j]?.getD undef= .pointer (some ⟨h,0,none⟩):=by simpa using r
 simp[results,p,I,J,asAddr,run_loadVar_row w g t c cs _ m u x y z,run_loadVar_row w h t2 d b _ d2 v A C E]
end
theorem xZ{a:Value}(b:a.oneCell'=true)(c:i.oneCell'=true):(#[a,i].all (·.oneCell'))=true:=by simp[b,c]
theorem yA{a b:Value}(c:a.oneCell'=true)(d:i.oneCell'=true)(h:b.oneCell'=true):(#[a,i,b].all (·.oneCell'))=true:=by simp[c,d,h]
theorem nD(w:World)(o:Obj):(w.alloc o).heap.size=w.heap.size+1:=by show(w.heap.push o).size=_;simp
theorem kR(w:World)(c:Array Value)(d:TypeId):∃b,b=w.alloc (.cells c d)/\Ext w b/\Bx d b w c/\b.heap.size=w.heap.size+1:=
 ⟨_,rfl,(Ext.refl w).alloc _,Bx.new w d c,nD w _⟩
theorem lZ(w:World)(c B:Array Value)(d h:TypeId):∃b,b=(w.alloc (.cells c d)).alloc (.cells B h)/\Ext w b/\Bx d b w c/\Bx h b (w.heap.size+1) B/\b.heap.size=w.heap.size+2:=by
 obtain⟨b,m,n,p,q⟩:=kR w c d;rw[<-m];obtain⟨r,s,i,j,l⟩:=kR b B h;rw[q]at j l;exact⟨r,s,n.trans i,p.ext i,j,l⟩
theorem qI(w:World)(c B d:Array Value)(h i j:TypeId):∃b,b=((w.alloc (.cells c h)).alloc (.cells B i)).alloc (.cells d j)/\Ext w b/\Bx h b w c/\Bx i b (w.heap.size+1) B/\Bx j b (w.heap.size+2) d/\b.heap.size=w.heap.size+3:=by
 obtain⟨b,p,q,r,s,u⟩:=lZ w c B h i;rw[<-p];obtain⟨v,x,l,m,n⟩:=kR b d j;rw[u]at m n;exact⟨v,x,q.trans l,r.ext l,s.ext l,m,n⟩
theorem ae4(w:World)(d B h D:Array Value)(i j l m:TypeId):∃b,b=(((w.alloc (.cells d i)).alloc (.cells B j)).alloc (.cells h l)).alloc (.cells D m)/\Ext w b/\Bx i b w d/\Bx j b (w.heap.size+1) B/\Bx l b (w.heap.size+2) h/\Bx m b (w.heap.size+3) D/\b.heap.size=w.heap.size+4:=by
 obtain⟨b,q,r,s,u,v,x⟩:=qI w d B h i j l;rw[<-q];obtain⟨y,z,c,n,p⟩:=kR b D m;rw[x]at n p;exact⟨y,z,r.trans c,s.ext c,u.ext c,v.ext c,n,p⟩
open Tryz
theorem ac4(xs:List Nat)(b:Nat)(c:b<xs.length)(d:((xs[b]:Int)==0)=true)(h:Hid (tz xs=tz (xs.take (b+1)))):Hid (tz xs=tz (xs.take b)):=by
 have i:xs[b]=0:=by simpa using d
 show tz xs=tz (xs.take b);rw[h.out,cT c,i,yX]
theorem ac3(xs:List Nat)(b:Nat)(c:b<xs.length)(d:((xs[b]:Int)==0)=false)(h:Hid (tz xs=tz (xs.take (b+1)))):(tz xs).length=b+1:=by
 have i:¬xs[b]=0:=by simpa using d
 rw[h.out,cT c,UR _ _ i,aB,aP];simp;omega
theorem V4(d:Option Addr)(c:Nat)(xs:List Nat)(w:World)(m:Rd w d (mK .u64 xs))(p:xs.length<=c)(q:c<=9223372036854775807):
  Calls prog 204 #[(d,xs.length,c)] w λe w'=>e= .returned (d,(tz xs).length,c)/\w=w':=by
 go_enter func204,ntmps204;go_wp2;go_loop [3] (λh=>∃k:Nat,k<=xs.length/\h=k/\Hid (tz xs=tz (xs.take k))) (λh=>(intOf h).toNat)
 case atStart=>exact ⟨xs.length,lr,rfl,by simp[Hid]⟩
 case round=>
  obtain⟨k,_,rfl,i⟩:=hrel;rcases aR k with j |j
  .subst j;go_wp2;go_ret;have n:tz xs=[]:=by have:=i.out;simpa[tz]using this
   exact⟨by simp[n],rfl⟩
  .obtain⟨b,rfl⟩:∃b,k=b+1:=⟨k - 1,om⟩;obtain⟨_,_,rfl,l⟩:=m.at (by rw[kU];omega);have r:=l b _ (mM .u64 xs b om);clear l;go_wp2
   .go_round
    case rel=>exact ⟨b,om,rfl,ac4 xs b om (by assumption) i⟩
    case measure=>simp [intOf]
   .go_ret;exact⟨by rw[ac3 xs b om (by assumption) i];simp,rfl⟩
theorem lT(c:Option Addr)(d b:Nat)(xs:List Nat)(w:World)(h:xs.length=d)(i:Rd w c (mK .u64 xs))(j:d<=b)(l:b<=9223372036854775807):
  Calls prog 204 #[(c,d,b)] w λe w'=>e= .returned (c,(tz xs).length,b)/\w=w':=by
 subst h;exact V4 c b xs w i j l
theorem tH:(prog.info? 165).map (λb=>(b.zero,b.size,b.bytes))=some (some (.int .u64 0),1,8):=kr
theorem EJ:(prog.info? 3).map (λb=>(b.zero,b.size,b.bytes))=some (some (.int .i64 0),1,8):=kr
theorem TM(w:World):(Instr.buildSlice 33 0 #[]).run prog w= .ok (.slice w 0 0) (w.alloc (.cells #[] 165)):=kr
theorem QY(c:Option Addr)(b:Nat)(xs:List Nat)(w:World)(h:Rd w c (mK .u64 xs))(H:xs.length<=b)(I:b<=9223372036854775807)(i:xs.length<=BIG):
  Calls prog 224 #[(c,xs.length,b)] w λe w'=>∃j,e= .returned j/\FrL 165 .u64 w w' j xs/\Ext w w':=by
 obtain⟨n,p,q,r,s⟩:=info_parts tH;have:=λ(u:World) (a:Option Addr) (v x:Nat)=>Lib.run_eql_slice_nil (P:=prog) u 33 165 a v x 0 0 underlying33
 have:=TM
 cases c with
 |none=>
  have y:xs=[]:=by
   rcases h with d |⟨_,_,d,_⟩
   .exact A9.1 d
   .cases d
  subst y;go_enter func224,ntmps224;go_wp2;go_ret;exact⟨_,rfl,⟨none,0,rfl,sm,om,.inl ⟨rfl,rfl,rfl⟩⟩,rE⟩
 |some a=>
  have z:(w.alloc (.cells #[] 165)).ownsRow w 165 1 (.slice w 0 0) 0 []:=jY w #[] 0 lr de rfl;have A:∀l m,(mK .u64 xs)[l]? =some m->(w.alloc (.cells #[] 165)).cell? (a.add l)=some m:=h.addr a rfl ((Ext.refl w).alloc _);go_enter func224,ntmps224;go_wp2_with (at_builtin;refine wpList_append_own _ rfl _ _ 33 rfl w 165 n (.int .u64 0) 1 8 underlying33 p q r s rfl de _ _ _ rfl z a xs.length b (mK .u64 xs) rfl ?c1 A ?c2 ?c3 ?c4 ?c5 ?_)
  case c1=>simp [kU]
  case c2=>exact Q8 _ _
  case c3=>rw [DE]at i;unfold maxLen;omega
  case c4=>rw [DE]at i;omega
  case c5=>simp
  intro C _ E F _;go_wp2;go_ret;exact⟨C,rfl,TW E,Ext.step ((Ext.refl w).alloc _) (g:=w.heap.size) F lr⟩
theorem wE(d:Option Addr)(b c:Nat)(xs:List Nat)(w:World)(i:xs.length=b)(j:Rd w d (mK .u64 xs))(l:b<=c)(m:c<=9223372036854775807)(n:b<=BIG):
  Calls prog 224 #[(d,b,c)] w λe w'=>∃h,e= .returned h/\FrL 165 .u64 w w' h xs/\Ext w w':=by
 subst i;exact QY d c xs w j l m n
theorem yW(h:Value)(c:Nat)(w:World)(p:IsN .u64 W w h c):
  Calls prog 185 #[h] w λe w'=>∃b,e= .returned b/\FrN 165 .u64 W w w' b c/\Ext w w':=by
 obtain⟨xs,⟨d,i,rfl,q,j,l⟩,r,s,u⟩:=p;have:=nJ xs;have v:Rd w d (mK .u64 (tz xs)):=by rw[<-sD,oJ];exact l.take _
 have x:(tz xs).length<=BIG:=by rw[mR]at r;rw[DE];omega
 have m:tz xs=dg W c:=by rw[pK lF s,u]
 have y:=a8 m;clear m;go_enter func185,ntmps185;go_wp2_with fail;refine(lT d _ i xs w rfl l q j).mono ?_;rintro e w' ⟨rfl,rfl⟩;go_wp2_with fail;refine(wE d _ i (tz xs) w rfl v om j x).mono ?_;rintro e w' ⟨b,rfl,n,z⟩;go_wp2;go_ret;rw[y.out]at n;exact⟨b,rfl,n,z⟩
theorem oF{k:IntKind}{a b:Int}(c:a=b):Ending.returned (.int k a)= .returned (.int k b):=by rw[c]
def o6(x y:Nat):Int:=if x<y then -1 else if x=y then 0 else 1
theorem IX{B:Nat}{xs:List Nat}(b:Nat)(c:b<xs.length)(h:b<d.length)(i:0<B)(j:Dig B xs)(l:xs.drop (b+1)=d.drop (b+1))(m:xs[b]<d[b]):val B xs<val B d:=by
 rw[sX xs b om,sX d b om,vS xs b c,vS d b h,l];have n:=pU i (j.take b);rw[aP,eL om]at n;have p:B^b*(xs[b]+1)<=B^b*d[b]:=bV _ m;rw[bK]at p;simp only[bK];omega
theorem ZN(b:Nat)(c:b<d.length)(h:b<p.length)(i:Hid (d[b]=p[b]))(j:Hid (d.drop (b+1)=p.drop (b+1))):Hid (d.drop b=p.drop b):=by
 show d.drop b=p.drop b;rw[dO c,dO h,i.out,j.out]
theorem IW{B:Nat}(d:1<B)(i:(dg B b).length<(dg B h).length):b<h:=by
 rcases dH b h with c |c
 .exact c
 .have:=lN d c;omega
theorem tR(x y:Value)(c d:Nat)(w:World)(M:IsN .u64 W w x c)(N:IsN .u64 W w y d):
  Calls prog 211 #[x,y] w λe w'=>e= .returned (o6 c d:Int)/\Ext w w':=by
 obtain⟨xs,⟨z,O,rfl,A,S,n⟩,T,U,C⟩:=M;obtain⟨j,⟨E,V,rfl,F,X,r⟩,Y,Z,H⟩:=N;have h:=a8 (show tz xs=dg W c by rw[pK lF U,C]);have i:=a8 (show tz j=dg W d by rw[pK lF Z,H]);have a0:Rd w z (mK .u64 (tz xs)):=by rw[<-sD,oJ];exact n.take _
 have a1:Rd w E (mK .u64 (tz j)):=by rw[<-sD,oJ];exact r.take _
 have b0:(tz xs).length<=9223372036854775807:=by have:=nJ xs;omega
 have b1:(tz j).length<=9223372036854775807:=by have:=nJ j;omega
 clear C H;go_enter func211,ntmps211;go_wp2_with fail;refine(lT z _ O xs w rfl n A S).mono ?_;rintro e w' ⟨rfl,rfl⟩;go_wp2_with fail;refine(lT E _ V j w rfl r F X).mono ?_;rintro e w' ⟨rfl,rfl⟩;clear n r T Y A F;generalize tz xs=p at*;generalize tz j=q at*;have s:val W p=c:=by rw[h.out,nE lF]
 have u:val W q=d:=by rw[i.out,nE lF]
 have a2:Dig W p:=by rw[h.out];exact(nQ lF c).1
 have a3:Dig W q:=by rw[i.out];exact(nQ lF d).1
 rcases eZ p.length q.length with a4 |I |a5
 .have hfin:o6 c d= -1:=by
   have:c<d:=IW lF (by rw[<-h.out,<-i.out];exact a4);simp[o6,this]
  clear s u;go_wp2;go_ret;exact⟨oF hfin.symm,rE⟩
 .clear s u;have a6:=a8 I;go_wp2;go_loopw [5] (λv wr=>∃k:Nat,k<=q.length/\v= .int .i64 ((k:Int) - 1)/\Hid (p.drop k=q.drop k)/\Ext w wr) (λv _=>(intOf v+1).toNat)
  case atStart=>exact ⟨q.length,lr,rfl,by simp[Hid,I],rE⟩
  case round=>
   obtain⟨k,_,rfl,m,hext⟩:=hrel;rcases aR k with J |J
   .subst J;have hfin:o6 c d=0:=by
     have:p=q:=by have:=m.out;simpa using this
     have:c=d:=ae9 lF (by rw[<-h.out,<-i.out,this]);simp[o6,this]
    go_wp2;go_ret;exact⟨oF hfin.symm,hext⟩
   .obtain⟨b,rfl⟩:∃b,k=b+1:=⟨k - 1,om⟩;obtain⟨_,_,rfl,K⟩:=a0.at (by rw[kU];omega);obtain⟨_,_,rfl,L⟩:=a1.at (by rw[kU];omega);have b2:=hext.cell (K b _ (mM .u64 p b om));have b3:=hext.cell (L b _ (mM .u64 q b om));clear K L;rw[show ((b+1:Nat):Int) - 1=(b:Int)from om];rcases eZ p[b] q[b]with l |l |l
    .have hfin:o6 c d= -1:=by
      have:c<d:=by rw[<-nE lF c,<-nE lF d,<-h.out,<-i.out];exact IX b om om (by rw[lX];omega) a2 m.out l
      simp[o6,this]
     exact pZ8
    .have a7:=a8 l;have a9:¬p[b]<q[b]:=om;have b4:¬q[b]<p[b]:=om;clear l;go_wp2;go_quiet (fail);go_wp2;go_quiet (fail);go_wp2;go_roundw
     case rel=>exact ⟨b,om,rfl,ZN b (by have:=a6.out;omega) om a7 m,hext.drews _⟩
     case measure=>simp [intOf]
    .have hfin:o6 c d=1:=by
      have:d<c:=by rw[<-nE lF c,<-nE lF d,<-h.out,<-i.out];exact IX b om om (by rw[lX];omega) a3 m.out.symm l
      unfold o6;rw[if_neg om,if_neg om]
     have a9:¬p[b]<q[b]:=om;go_wp2;go_quiet (fail);exact pZ8
 .have hfin:o6 c d=1:=by
   have:d<c:=IW lF (by rw[<-h.out,<-i.out];exact a5);unfold o6;rw[if_neg om,if_neg om]
  clear s u;go_wp2;go_ret;exact⟨oF hfin.symm,rE⟩
theorem DJ(c d b:Nat)(h:b<=1)(w:World):
  (callFunc 237 #[.int .u64 (c:Int),.int .u64 (d:Int),.int .u64 (b:Int)]).run prog w=
   .ok (.value (.tuple #[.int .u64 (((c+d+b) % W:Nat):Int),.int .u64 (((c+d+b) / W:Nat):Int)])) w:=by
 rw[run_callFunc_extern func237 kr kr kr (e:=add64Entry) kr,run_add64 c d b om om om om];simp only[Result.andThen,lX];congr 5<;>omega
theorem LI(c d b:Nat)(h:b<=1)(w:World):
  (callFunc 240 #[.int .u64 (c:Int),.int .u64 (d:Int),.int .u64 (b:Int)]).run prog w=
   .ok (.value (.tuple #[.int .u64 (((c+W - d - b) % W:Nat):Int),.int .u64 ((if c<d+b then 1 else 0:Nat):Int)])) w:=by
 rw[run_callFunc_extern func240 kr kr kr (e:=sub64Entry) kr,run_sub64 c d b h];rw[lX];rfl
def gD(l:List Nat)(i:Nat):Nat:=l.getD i 0
theorem nY(c:b<d.length):gD d b=d[b]:=by simp[gD,List.getD,c]
theorem AW{l:List Nat}{i:Nat}(b:¬i<l.length):gD l i=0:=by simp[gD,List.getD,b]
theorem NM(d:Option Addr)(i:Nat)(xs:List Nat)(b:Nat)(w:World)(j:Rd w d (mK .u64 xs))(l:b<=9223372036854775807)(m:xs.length<=9223372036854775807):
  Calls prog 238 #[(d,xs.length,i),b] w λe w'=>e= .returned (.int .u64 ((gD xs b:Nat):Int))/\w=w':=by
 by_cases c:b<xs.length
 .obtain⟨_,_,rfl,h⟩:=j.at (by rw[kU];omega);have:=h b _ (mM .u64 xs b c);clear h;have hg:=nY c;exact zH0
 .have hg:=AW c;exact zH0
def G6(n:Nat):Nat:=if n=0 then 0 else(sz W n - 1)*64+Lib.bitLen ((dg W n).getLastD 0)
theorem QO(b:Nat)(c:b≠0)(d:b<W):1<=Lib.bitLen b:=(Lib.bitLenAux_bounds 64 b (by rw[lX]at d;omega) c).1
theorem NP{B:Nat}(c:Can B d)(j:0<d.length):d[d.length - 1]≠0:=by
 intro h;have b:=yX (d.take (d.length - 1));have i:d.take (d.length - 1)++ [0]=d:=by
  have:=cT (l:=d) (i:=d.length - 1) om;rw[h,aK om]at this;exact this.symm
 rw[i,c.2]at b;have:=nJ (d.take (d.length - 1));rw[<-b,aP]at this;omega
theorem EG(b:List Nat)(c:0<b.length):b.getLastD 0=b[b.length - 1]:=by
 rw[List.getLastD_eq_getLast?,List.getLast?_eq_getElem?,aA om,Option.getD_some]
theorem G7(b:Nat):G6 b=0↔b=0:=by
 unfold G6;split
 .simp[*]
 .rename_i d;have h:0<(dg W b).length:=by
   rcases aR (dg W b).length with c |c
   .exact absurd ((qT lF).1 (aL c)) d
   .exact c
  have c:=NP (nQ lF b) h;have:=QO _ c ((nQ lF b).1.get om);rw[EG _ h];constructor
  .intro i;omega
  .intro i;exact absurd i d
theorem WW{b:Nat}(h:d=dg W b)(c:0<d.length):(((d.length:Int) - 1)*64+(Lib.bitLen d[d.length - 1]:Int))=(G6 b:Int):=by
 subst h;have i:b≠0:=λj=>by subst j;simp[FK]at c
 unfold G6 sz;rw[if_neg i,EG _ c];omega
theorem G8(h:Value)(b:Nat)(w:World)(r:IsN .u64 W w h b):
  Calls prog 188 #[h] w λe w'=>e= .returned (G6 b:Int)/\Ext w w':=by
 obtain⟨xs,⟨i,s,rfl,j,u,c⟩,l,v,m⟩:=r;have d:=a8 (show tz xs=dg W b by rw[pK lF v,m]);have x:Rd w i (mK .u64 (tz xs)):=by rw[<-sD,oJ];exact c.take _
 have C:(tz xs).length<=1099511627776:=by have:=nJ xs;rw[mR]at l;omega
 go_enter func188,ntmps188;go_wp2_with fail;refine(lT i _ s xs w rfl c j u).mono ?_;rintro e w' ⟨rfl,rfl⟩;clear c l j m;generalize tz xs=p at*;by_cases y:p.length=0
 .have z:b=0:=(qT lF).1 (by rw[<-d.out];exact aL y);subst z;go_wp2;go_ret;exact⟨rfl,rE⟩
 .obtain⟨_,_,rfl,n⟩:=x.at (by rw[kU];omega);have E:=n (p.length - 1) _ (mM .u64 p (p.length - 1) om);clear n;have q:p[p.length - 1]'(by omega)<W:=by
   have:Dig W p:=by rw[d.out];exact(nQ lF b).1
   exact this.get om
  go_wp2_with fail;refine(bits_Len64 _ _ om (by rw[lX]at q;omega)).mono ?_;rintro e w' ⟨rfl,A⟩;subst A;have F:Lib.bitLen (p[p.length - 1]'(by omega))<=64:=Lib.bitLen_le _ 64 lr (by rw[lX]at q;omega);rw[dS];go_wp2;go_ret;exact⟨oF (WW d.out om),rE⟩
def DD(xs ys l:List Nat)(i c:Nat):Prop:=l.length=xs.length+1/\Dig W l/\c<=1/\val W (l.take i)+W^i*c=val W (xs.take i)+val W (ys.take i)/\i<=xs.length
theorem o4(ys:List Nat)(i:Nat):val W (ys.take (i+1))=val W (ys.take i)+W^i*gD ys i:=by
 exact TH8
theorem Dig.gD{B:Nat}(i:0<B)(h:Dig B d)(c:Nat):gD d c<B:=by
 by_cases b:c<d.length
 .rw[nY b];exact h.get b
 .rw[AW b];omega
theorem DD.step{xs:List Nat}(j:DD xs d p b h)(c:b<xs.length)(l:Dig W xs)(m:Dig W d):
  DD xs d (p.set b ((xs[b]+gD d b+h) % W)) (b+1) ((xs[b]+gD d b+h) / W):=by
 obtain⟨r,s,_,_,_⟩:=j;have i:0<W:=by rw[lX];omega
 have:=l.get c;have:=m.gD i b;refine⟨by simpa using r,s.set (cH _ i),?_,?_,om⟩
 .have:(xs[b]+gD d b+h) / W<2:=cS om;omega
 .rw[nM _ _ (by simp;omega),dE,dR lr,nM xs b c,o4 d b];have e:=cU (xs[b]+gD d b+h) W;have u:W^b*((xs[b]+gD d b+h) % W)+W^(b+1)*((xs[b]+gD d b+h) / W)=W^b*(xs[b]+gD d b+h):=by
   rw[cP,cG,<-bK,e]
  simp only[bK]at u;omega
theorem DD.finish{xs:List Nat}(h:DD xs d p xs.length b)(i:d.length<=xs.length)(l:Dig W xs):Dig W (p.set xs.length b)/\val W (p.set xs.length b)=val W xs+val W d:=by
 obtain⟨_,j,_,c,_⟩:=h;refine⟨j.set (by rw[lX];omega),?_⟩;rw[aK lr,aK i]at c;rw[sX _ xs.length (by simp;omega),dR lr,vS _ xs.length (by simp;omega),dE,dP (by simp;omega)];simp only[val,gP,bZ];exact c
theorem NK(z A:Value)(C m:Option Addr)(E s:Nat)(xs c:List Nat)(w:World)(O:Rd w C (mK .u64 xs))(S:Rd w m (mK .u64 c))
  (a7:(z=(C,xs.length,E)/\A=(m,c.length,s)/\c.length<=xs.length)∨(z=(m,c.length,s)/\A=(C,xs.length,E)/\c.length<xs.length))
  (bC:xs.length<=1099511627776) (T:Dig W xs) (a9:Dig W c):
  Calls prog 202 #[z,A] w λe w'=>∃U,e= .returned U/\FrN 165 .u64 W w w' U (val W xs+val W c)/\Ext w w':=by
 have F:=DJ;rcases a7 with⟨rfl,rfl,b0⟩ |⟨rfl,rfl,b0⟩;all_goals
  go_enter func202,ntmps202
  go_wp2_with (at_make;refine oK _ rfl _ _ 33 rfl 165 .u64 8 underlying33 tH .i64 .i64 _ _ (xs.length+1) rfl rfl om om om om ?_)
  intro _ g H I J;go_wp2_with fail;go_loopw [6,21] (λd K wr=>∃(k V:Nat) (j:List Nat),K= .int .i64 k/\d= .int .u64 V/\DD xs c j k V/\lM 165 .u64 wr g j []/\Ext w wr) (λ_ K _=>xs.length - (intOf K).toNat)
  case atStart=>exact ⟨0,0,_,rfl,rfl,⟨sm,Dig.replicate (by rw[lX];omega) _,om,by simp[val],zl⟩,J,H⟩
  case round=>
   obtain⟨k,d,j,rfl,rfl,i,l,u⟩:=hrel;have b1:=i.2.2.1;have:=i.2.2.2.2;have v:j.length=xs.length+1:=i.1
   by_cases X:k<xs.length
   .obtain⟨Y,Z,rfl,a0⟩:=O.at (by rw[kU];omega);have b2:=u.cell (a0 k _ (mM .u64 xs k X));clear a0 J H;obtain⟨a1,a2⟩:=l.got k om;have b3:=l.free k;have a3:=F xs[k] (gD c k) d b1;have L:=a8 (i.step X T a9);have n:=a8 v;clear i F v;have b4:=S.ext u;have:(k:Int)<xs.length+1:=om;generalize (xs[k]+gD c k+d) % W=x at a3 L;generalize (xs[k]+gD c k+d) / W=p at a3 L;go_wp2_with fail
    refine uR g 15 [isV (g,xs.length+1,xs.length+1),isV k,isV (Y,Z,xs.length,E),isV k,isV (Y,Z+k),isV (.int .u64 xs[k]),isV (m,c.length,s),isV k,isV (.int .u64 (gD c k)),isV (.int .u64 d),
      isV (.tuple #[.int .u64 (x:Int),.int .u64 (p:Int)]),isV (.tuple #[.int .u64 (x:Int),.int .u64 (p:Int)]),
      isV (.int .u64 (x:Int)),isV (.int .u64 (p:Int)),isV (g,k),
      λ_ w=>lM 165 .u64 w g (j.set k x) [],isV (.int .u64 (p:Int))]
     [(9,16,6)] [5,8,15]
     kr kr (λf=>(by simp only[mJ,mO,aQ,aV,aZ,Nat.reduceAdd];rfl)) ?_ ?_ ?_ ?_
    .repeat (first |exact trivial |refine ⟨λb5 b6 b7 M b=>(by first |exact b |exact lM.ext b M),?_⟩)
    .repeat (first |exact trivial |refine ⟨λb5 b6 b7 M b=>(by first |exact b |exact lM.ext b M),?_⟩)
    .refine⟨?_,?_,?_,?_,?_,?o5,?_,?_,?o8,?_,?_,?_,?_,?_,?_,?o15,?_,trivial⟩
     case o5=>
      intro f q r h b y;simp[lY,pl,isV,Region.binds]at b;simp[nT]at h;have:=h.cell b2;simp only[kM];go_simp;exact⟨_,rfl,rE,rfl⟩
     case o8=>
      intro f q r h b y;simp[lY,pl,isV,Region.binds]at b;simp[nT]at h;simp only[kM];go_simp;refine(NM m s c k q (b4.ext h) om om).mono ?_;rintro e w' ⟨rfl,rfl⟩;exact⟨_,rfl,rE,rfl⟩
     case o15=>
      intro f q r h b y;simp[lY,pl,isV,Region.binds]at b;simp[nT]at h;have N:=l.ext h;obtain⟨a1,a2⟩:=N.got k (by have:=n.out;omega);have:=N.free k;simp only[kM];go_simp;exact⟨undef,rfl,Chg.setCell _ _ _ _,N.set k _ (by have:=n.out;omega)⟩
     all_goals
      intro f q r h b y;simp[lY,pl,isV,Region.binds]at b;simp[oV]at y;simp only[kM];go_simp;exact⟨_,rfl,rE,rfl⟩
    .intro f q r b;simp[n5,pl,isV]at b;obtain⟨_,_,_,_,_,_,_,_,_,_,_,_,_,_,_,a4,b8⟩:=b;have b9:=a8 a4;clear a4;go_wp2;go_roundw
     case rel=>exact ⟨k+1,p,_,rfl,b8,L.out,b9.out,u.step r I⟩
     case measure=>simp [intOf];omega
   .have bA:k=xs.length:=om;subst bA;obtain⟨a1,a2⟩:=l.got xs.length om;have b3:=l.free xs.length;have a5:=a8 (i.finish om T);have a6:=a8 (lM.set (w:=wr) l xs.length d om);have bB:=u.setCell (p:=⟨g,xs.length,none⟩) I (.int .u64 d);have n:=a8 v;clear i F v J H S O;go_wp2_with fail;refine(lT g (xs.length+1) (xs.length+1) (j.set xs.length d) _ (by rw[cI];exact n.out) a6.out.rd om om).mono ?_;rintro e w' ⟨rfl,rfl⟩;go_wp2;go_ret;exact⟨_,rfl,a6.out.frN I lF a5.out.1 a5.out.2 (by rw[cI];exact n.out) om,bB⟩
theorem xI(d h:Value)(i j:Nat)(w:World)(z:IsN .u64 W w d i)(A:IsN .u64 W w h j):
  Calls prog 202 #[d,h] w λe w'=>∃l,e= .returned l/\FrN 165 .u64 W w w' l (i+j)/\Ext w w':=by
 obtain⟨xs,⟨m,n,rfl,_,_,p⟩,q,r,rfl⟩:=z;obtain⟨b,⟨s,u,rfl,_,_,v⟩,x,y,rfl⟩:=A;rw[mR]at q x;rcases dH xs.length b.length with c |c
 .have:=NK _ _ s m u n b xs w v p (.inr ⟨rfl,rfl,c⟩) x y r;rwa [fL]at this
 .exact NK _ _ m s n u xs b w p v (.inl ⟨rfl,rfl,c⟩) q r y
end Go.Proofs.YtjlcilmjfejimaaGreat
