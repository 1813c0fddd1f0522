/- A log begun. -/
import Derived.Test.YtjlcilmjfejimaaGreatG
import Derived.IntWalk
import Derived.Maps.OwnOps
import Derived.Maps.OwnSet
import Derived.Maps.Views
import Derived.Lib.SmallJoins
import Derived.Laws.IdiomArrays
namespace Go.Proofs.YtjlcilmjfejimaaGreat
set_option maxRecDepth 100000
set_option maxHeartbeats 32000000
set_option linter.unusedVariables false
set_option linter.unusedSimpArgs false
open Go.RowKit Tryz
variable{c d e v F B:Nat}{g N:World}{i:List CR}{j:List (Int×Rat)}{k:List DR}{m:List (List Int)}{n:List Value}{p:Int->Int}{r:Value}{t:LgS}{u:Rat}{x:List Bool}{y:Program}{z:List TE}{A:List ByteArray}{C:Array Value}{D s:Int}{E:CE}{I Z:TypeId}{J:Type}{K:RE}{L:PbE}{M:List Oper}{O:DR}{P:Ending}{R:CR}{T:List Int}{U:Int×Rat}{V:List Deferred}{X:(Nat->Value)->Array Value}{Y:List (ByteArray×VrR)}{l:QC}
theorem VnN.vrl{w:World}(b:VnN c w r Y):VrL c w r (Y.map (·.2)):=SL.mapL b λ_ d _ ⟨a,e,f,g,h,i⟩=>⟨d.1,a,e,f,g,h,i⟩
theorem OL.chgK{h:World->Value->J->Prop}{w:World}{i:List J}(k:OL I c d h w r i)(l:Chg e w g)(m:Bx Z w e C)(n:Z≠I)(p:∀b f,h w b f->h g b f):OL I c d h g r i:=by
 obtain⟨q,j,s,t⟩:=k;exact⟨q,⟨j.1,mF j.2 l m n⟩,s,λu b f a v=>p b f (t u b f a v)⟩
theorem OL.frK{i:TypeId}{h:World->Value->J->Prop}{w:World}{j:List J}(l:OL I c d h w r j)(m:Fr Z e w g)(n:Bx i w e C)(p:I≠Z)(q:I≠i)(s:∀b f,h w b f->h g b f):OL I c d h g r j:=by
 obtain⟨t,k,u,v⟩:=l;exact⟨t,⟨k.1,m.row n k.2 p q⟩,u,λx b f a y=>s b f (v x b f a y)⟩
structure LgZ (B K:Nat) (w:World) (t:CrT) (bs:List Bool) (ob:List (Int×Rat)) (cs:List CR):Prop where
 bs:w.ownsRow B 4 1 (.slice t.wa t.wn t.wc) t.wn (bs.map Value.bool)
 ob:TO B K w (.slice t.oa t.on t.oc) ob
 cs:CoL B K w (.slice t.ca t.cn t.cc) cs
theorem LgZ.ext{d e:Nat}{w f:World}{g:CrT}{h:List Bool}{i:List (Int×Rat)}{j:List CR}(b:LgZ d e w g h i j)(c:Ext w f):LgZ d e f g h i j:=⟨lL b.bs c,b.ob.ext c,b.cs.ext c⟩
theorem LgZ.chg{g:Nat}{w h:World}{t:CrT}{cs:List CR}(b:LgZ c d w t x j cs)(e:Chg g w h)(f:Bx 99 w g C):LgZ c d h t x j cs:=
 have i:=(e.keepS f de).keepT
 ⟨mF b.bs e f de,b.ob.keepT i,OL.chgK b.cs e f de λ_ _ b=>b.keepT i⟩
theorem GM{w:World}(f:Fr 9 c w g)(b:Bx 99 w c C):rI w g:=λh i j e d=>f h i j (by rcases e with rfl |rfl<;>decide) (by
 rintro rfl;unfold Bx at d b;rw[d]at b;simp only[Option.some.injEq,Obj.cells.injEq]at b
 rcases e with rfl |rfl
 .exact absurd b.2.1 de
 .exact absurd b.2.1 de) d
theorem LgZ.fr{w:World}{k:CrT}(b:LgZ c d w k x j i)(f:Fr 9 e w g)(h:Bx 99 w e C):LgZ c d g k x j i:=
 have l:=GM f h
 ⟨f.row h b.bs de de,b.ob.keepT l,b.cs.frK f h de de λ_ _ b=>b.keepT l⟩
def NwI(B K:Nat)(w1 w2:World)(g:Nat)(n0 n1:ByteArray)(t:CrT)(rows:List RwR)(vars:List (ByteArray×VrR))(S:Nat->Bool)(wz:World):Prop:=
 Ext w1 wz/\Chg g w2 wz/\∃ra2 rn2 rc2 va2 vn2 vc2,Bx 99 wz g #[n0,n1,.slice ra2 rn2 rc2,.slice va2 vn2 vc2,(),(t.wa,t.wn,t.wc),(t.oa,t.on,t.oc),(t.ca,t.cn,t.cc),(0:Int),false,false,t.lo.b,(t.lo.a1,t.lo.n1,t.lo.c1),(t.lo.a2,t.lo.n2,t.lo.c2),t.hi.b,(t.hi.a1,t.hi.n1,t.hi.c1),(t.hi.a2,t.hi.n2,t.hi.c2),(),(),()]/\(S 0=true->OL 81 10 B (RwP B K) wz (.slice ra2 rn2 rc2) (rows.map F8))/\(S 1=true->OL 86 13 B (VrP B K) wz (.slice va2 vn2 vc2) vars)
theorem RwP.mono{d e f:Nat}{w:World}{g:Value}{h:RwR}(b:RwP d f w g h)(c:e<=d):RwP e f w g h:=by
 obtain⟨i,j,b,k,l,m,n,p,q,r,s⟩:=b;exact⟨i,j,b,k,l,m,n,p.mono c,q.mono c,r.mono c,s⟩
theorem VrP.mono{d e f:Nat}{w:World}{g:Value}{h:ByteArray×VrR}(b:VrP d f w g h)(c:e<=d):VrP e f w g h:=by
 obtain⟨i,b,j,k,l,m,n,p⟩:=b;exact⟨i,b,j,k,l.mono c,m.mono c,n.mono c,p⟩
theorem aa6(f:Nat)(w:World)(b d:Nat)(k:b<=65536)(h:f<=d)(i:Bx 55 w d (List.replicate b (Value.slice none 0 0)).toArray):NeL f w (.slice (some ⟨d,0,Option.none⟩) b b) (List.replicate b []):=by
 refine⟨List.replicate b (),⟨sm,.inr ⟨d,b,_,by rw[bW],h,i,by rw[bW];exact lr,by unfold maxLen;omega,sm,sm⟩⟩,sm,λj _ _ c e=> ?_⟩;rw[fY]at c e;by_cases g:j<b
 .rw[if_pos g]at c e
  cases c
  cases e
  exact gM _ _ _ _
 .rw[if_neg g]at c
  cases c
def NwJ(B K:Nat)(w1:World)(g:Nat)(n0 n1:ByteArray)(ra2:Option Addr)(rn2 rc2:Nat)(va2:Option Addr)(vn2 vc2:Nat)(t:CrT)(rows:List RwR)(vars:List (ByteArray×VrR))(p:PbR)(j:Nat)(wz:World):Prop:=
 Ext w1 wz/\∃na nc,Bx 99 wz g #[n0,n1,(ra2,rn2,rc2),(va2,vn2,vc2),.slice na j nc,(t.wa,t.wn,t.wc),(t.oa,t.on,t.oc),(t.ca,t.cn,t.cc),(0:Int),false,false,t.lo.b,(t.lo.a1,t.lo.n1,t.lo.c1),(t.lo.a2,t.lo.n2,t.lo.c2),t.hi.b,(t.hi.a1,t.hi.n1,t.hi.c1),(t.hi.a2,t.hi.n2,t.hi.c2),(),(),()]/\wz.ownsRow B 9 1 (.slice na j nc) j (((vars.take j).map (·.1)).map Value.string)/\LgZ B K wz t (tZ p) (tV p) (rJ p)/\OL 81 10 B (RwP B K) wz (ra2,rn2,rc2) (rows.map F8)/\OL 86 13 B (VrP B K) wz (va2,vn2,vc2) vars
theorem RM(c:Nat)(l:c<=65536):∃e:Array Value,e=(List.replicate c (Value.slice none 0 0)).toArray/\∀w:World,(Instr.makeSlice 97 c c).run prog w= .ok (w,c,c) (w.alloc (.cells e 55)):=by
 obtain⟨b,h,i,j,k⟩:∃b,prog.info? 55=some b/\b.size=1/\b.bytes=24/\b.zero=some (.slice none 0 0):=by
  have d:(prog.info? 55).map (λb=>(b.size,b.bytes,b.zero))=some (1,24,some (.slice none 0 0)):=kr
  cases f:prog.info? 55 with
  |none=>rw [f]at d;cases d
  |some b=>
   rw[f]at d;simp only[Option.map_some,Option.some.injEq,Prod.mk.injEq]at d;exact⟨b,rfl,d⟩
 refine⟨_,rfl,λw=> ?_⟩;have g:=run_make (P:=prog) w 97 55 b () underlying97 h k .i64 .i64 c c om (iP _) (by rw[j];omega) om;simp only[dS]at g;rw[g,i,show(Value.slice none 0 0).cells=#[.slice none 0 0]from rfl,<-XT]
theorem KY(k m b9:Nat)(n p:ByteArray)(v:Option Addr)(x z:Nat)(A:Option Addr)(s B:Nat)(r:List RwR)(h:List (ByteArray×VrR))(w:World)
  (e4:RwL k w (v,x,z) r) (D:VnN k w (A,s,B) h) (g2:∀F∈r,F.2.length<=b9) (hP:1<=b9) (g3:b9<=1000000) (hR:1<=k) (g4:(b9+1)*(k+1)<=m) (hT:(h.length+1)*(k+1)<=m) (g5:m<=1000000000) (mB:r.length<=10000) (mC:h.length<=10000) (hU:(rJ (r,h.map (·.2))).length<=60000):
  Calls prog 7 #[.agg #[n,p,(v,x,z),(A,s,B)]] w λe w'=>∃J g t,w.heap.size<=J/\e= .returned (.pointer (some ⟨g,0,none⟩))/\nX J m w' g t [] (List.replicate (rJ (r,h.map (·.2))).length [])/\LgF J m w' t (h.map (·.1)) (tZ (r,h.map (·.2))) (tV (r,h.map (·.2))) (rJ (r,h.map (·.2)))/\t.nn=h.length/\t.wn=h.length/\t.cn=(rJ (r,h.map (·.2))).length/\t.n0=n/\t.n1=p/\OL 81 10 J (RwP J m) w' (t.ra,t.rn,t.rc) (r.map F8)/\OL 86 13 J (VrP J m) w' (t.va,t.vn,t.vc) h/\Ext w w':=by
 have g6:=D.lenS;have e5:PbV k w (.agg #[n,p,(v,x,z),(A,s,B)]) (r,h.map (·.2)):=⟨n,p,v,x,z,A,s,B,rfl,e4,D.vrl⟩;have e6:(tZ (r,h.map (·.2))).length=h.length:=by unfold tZ;simp
 have e7:(r,h.map (·.2)).2.length=h.length:=sm;have e8:(r,h.map (·.2)).1=r:=rfl;obtain⟨l,hp⟩:=ex ((r,h.map (·.2)):PbR);rw[<-hp]at e5 e6 e7 e8 hU ⊢;clear hp;have hV:h.length*(k+1)<=m:=aE (aJ _ (Nat.le_succ _)) hT;have hW:k<=m:=by have:=cX (k+1) (show 0<b9+1 by omega);omega
 obtain⟨j,g7,bR,e9,hX⟩:=kR w #[n,p,(v,x,z),(A,s,B)] 25;have eA:Hid (∀wz,Ext j wz->PbV k wz (.agg #[n,p,(v,x,z),(A,s,B)]) l):=a8 λwz a4=>e5.ext (bR.trans a4)
 have eB:Hid (∀wz,Ext j wz->RwL k wz (v,x,z) r/\VnN k wz (A,s,B) h):=a8 λwz a4=>⟨SL.ext (λ_ _ d=>d.ext (bR.trans a4)) e4 (bR.trans a4),D.ext (bR.trans a4)⟩
 have HC:Hid (∀wz,Ext j wz->wz.cell? w.heap.size=some (.string n)/\wz.cell? (w,1)=some (.string p)/\wz.cell? (w,2)=some (.slice v x z)/\wz.cell? (w,3)=some (.slice A s B)):=a8 λwz a4=>have V:=e9.ext a4;⟨V.cell 0,V.cell 1,V.cell 2,V.cell 3⟩
 have:s<=10000:=om;have a6:=a8 (aD g6 (aD e6 (aD e7 e8)));have hY:=a8 bR;have:w.heap.size<j.heap.size:=e9.lt;clear e4 D e5 g6 e6 e7 e8 bR e9 hX;go_enter func7,ntmps7;go_upto_region 1 with(fail);rw[<-g7];clear g7;apply JY [kN (.agg #[n,p,(v,x,z),(A,s,B)]),kN (.agg #[n,p,(v,x,z),(A,s,B)]),nL (λu wz=>wz.ownsRow j 4 1 u h.length ((tZ l).map Value.bool)) (λu a b q d=>lL d q),kN (.agg #[n,p,(v,x,z),(A,s,B)]),nL (λu wz=>TO j m wz u (tV l)) (λu a b q d=>d.ext q),kN (.agg #[n,p,(v,x,z),(A,s,B)]),nL (λu wz=>CoL j m wz u (rJ l)) (λu a b q d=>d.ext q),nL (λu wz=>FrQ j wz u ((0:Int):Rat)) (λu a b q d=>d.ext q),nL (λu wz=>FrQ j wz u ((0:Int):Rat)) (λu a b q d=>d.ext q),
  nL (λu wz=>∃c:CrT,u= .agg #[(),(c.wa,c.wn,c.wc),(c.oa,c.on,c.oc),(c.ca,c.cn,c.cc),(0:Int),false,false,c.lo.b,(c.lo.a1,c.lo.n1,c.lo.c1),(c.lo.a2,c.lo.n2,c.lo.c2),c.hi.b,(c.hi.a1,c.hi.n1,c.hi.c1),(c.hi.a2,c.hi.n2,c.hi.c2),(),()]/\c.wn=h.length/\LgZ j m wz c (tZ l) (tV l) (rJ l)) (λu a b q ⟨c,h1,h2,L⟩=>⟨c,h1,h2,L.ext q⟩),
  nL (λu wz=>∃c:CrT,u= .agg #[n,p,(v,x,z),(A,s,B),(),(c.wa,c.wn,c.wc),(c.oa,c.on,c.oc),(c.ca,c.cn,c.cc),(0:Int),false,false,c.lo.b,(c.lo.a1,c.lo.n1,c.lo.c1),(c.lo.a2,c.lo.n2,c.lo.c2),c.hi.b,(c.hi.a1,c.hi.n1,c.hi.c1),(c.hi.a2,c.hi.n2,c.hi.c2),(),(),()]/\c.wn=h.length/\LgZ j m wz c (tZ l) (tV l) (rJ l)) (λu a b q ⟨c,h1,h2,L⟩=>⟨c,h1,h2,L.ext q⟩),
  nL (λu wz=>∃(g:Nat) (c:CrT),u= .pointer g/\j.heap.size<=g/\Bx 99 wz g #[n,p,(v,x,z),(A,s,B),(),(c.wa,c.wn,c.wc),(c.oa,c.on,c.oc),(c.ca,c.cn,c.cc),(0:Int),false,false,c.lo.b,(c.lo.a1,c.lo.n1,c.lo.c1),(c.lo.a2,c.lo.n2,c.lo.c2),c.hi.b,(c.hi.a1,c.hi.n1,c.hi.c1),(c.hi.a2,c.hi.n2,c.hi.c2),(),(),()]/\c.wn=h.length/\LgZ j m wz c (tZ l) (tV l) (rJ l)) (λu a b q ⟨g,c,h1,bA,h2,L,eC⟩=>⟨g,c,h1,bA,h2.ext q,L,eC.ext q⟩),
  nL (λu wz=>∃(g:Nat) (c:CrT),u= .pointer g/\j.heap.size<=g/\Bx 99 wz g #[n,p,(v,x,z),(A,s,B),(),(c.wa,c.wn,c.wc),(c.oa,c.on,c.oc),(c.ca,c.cn,c.cc),(0:Int),false,false,c.lo.b,(c.lo.a1,c.lo.n1,c.lo.c1),(c.lo.a2,c.lo.n2,c.lo.c2),c.hi.b,(c.hi.a1,c.hi.n1,c.hi.c1),(c.hi.a2,c.hi.n2,c.hi.c2),(),(),()]/\c.wn=h.length/\LgZ j m wz c (tZ l) (tV l) (rJ l)) (λu a b q ⟨g,c,h1,bA,h2,L,eC⟩=>⟨g,c,h1,bA,h2.ext q,L,eC.ext q⟩)] ?st ?en hF kr rfl kr
 case st=>
  refine⟨oX,oX,?_,oX,?_,oX,?_,?_,?_,?_,?_,?_,?_,trivial⟩
  .intro S f wz hI hp hl hS;have Y:f 1= .agg #[n,p,(v,x,z),(A,s,B)]:=hp.1 rfl;refine oC (P:=prog) #[f 1] func38 rfl rfl ?_;rw[Y];refine(CU k _ l wz (eA.out wz hI) (by rw[a6.out.2.2.1];omega)).mono ?_;rintro e w' ⟨v',rfl,h1,h2⟩;rw[a6.out.2.2.1]at h1;exact⟨_,rfl,h2,qX h1 hI.size⟩
  .intro S f wz hI hp hl hS;have Y:f 3= .agg #[n,p,(v,x,z),(A,s,B)]:=hp.1 rfl;refine oC (P:=prog) #[f 3] func39 rfl rfl ?_;rw[Y];refine(BM k _ l wz (eA.out wz hI) (by rw[a6.out.2.2.1];omega) (by rw[a6.out.2.2.1];omega)).mono ?_;rintro e w' ⟨v',rfl,h1,h2⟩;rw[a6.out.2.2.1]at h1;exact⟨_,rfl,h2,(h1.mono hI.size).le hV⟩
  .intro S f wz hI hp hl hS;have Y:f 5= .agg #[n,p,(v,x,z),(A,s,B)]:=hp.1 rfl;refine oC (P:=prog) #[f 5] func40 rfl rfl ?_;rw[Y];refine(EM k m b9 _ l wz (eA.out wz hI) (by rw[a6.out.2.2.2];exact g2) hP g3 g4 om hR (by rw[a6.out.2.2.2];omega) (by rw[a6.out.2.2.1];omega)).mono ?_;rintro e w' ⟨v',rfl,h1,h2⟩;obtain⟨vs,a1,a2,a3⟩:=h1;have hs:=hI.size;exact⟨_,rfl,h2,⟨vs,⟨a1.1,qX a1.2 om⟩,a2,λi u y a b=>(a3 i u y a b).mono om⟩⟩
  .exact wF3
  .exact wF3
  .intro S f wz hI hp hl hS;have c6:wz.ownsRow j 4 1 (f 2) h.length ((tZ l).map Value.bool):=hp.1 rfl;have c7:TO j m wz (f 4) (tV l):=hp.2.1 rfl;have c8:CoL j m wz (f 6) (rJ l):=hp.2.2.1 rfl;have g9:FrQ j wz (f 7) ((0:Int):Rat):=hp.2.2.2.1 rfl;have gA:FrQ j wz (f 8) ((0:Int):Rat):=hp.2.2.2.2.1 rfl;obtain⟨hZ,i1,gG⟩:=lI c6;obtain⟨i2,i3,i4⟩:=c7.val;obtain⟨i5,i6,b3⟩:∃ad cap,f 6= .slice ad (rJ l).length cap:=by
    obtain⟨vs,a1,a2, -⟩:=c8;obtain⟨ad,cap,Y⟩:=lI a1.2;exact⟨ad,cap,by rw[<-a2];exact Y⟩
   obtain⟨i7,j0,j1,j2,j3,j4,j5,_, -⟩:=g9.opn;obtain⟨V,j6,jA,eD,jB,jC,eE,_, -⟩:=gA.opn;rw[gG]at c6;rw[i4]at c7;rw[b3]at c8;have jD:LgZ j m wz ⟨none,0,0,hZ,h.length,i1,i2,(tV l).length,i3,i5,(rJ l).length,i6,⟨i7,j0,j1,j2,j3,j4,j5⟩,⟨V,j6,jA,eD,jB,jC,eE⟩,none,0,0,none,0,0⟩ (tZ l) (tV l) (rJ l):=⟨c6,c7,c8⟩;clear hp c6 c7 c8 g9 gA;simp only[kM];go_simp;exact⟨_,rfl,rE,_,rfl,rfl,jD⟩
  .intro S f wz hI hp hl hS;have:f 0= .agg #[n,p,(v,x,z),(A,s,B)]:=hp.1 rfl;obtain⟨c,_,h2,L⟩:∃c:CrT,f 9= .agg #[(),(c.wa,c.wn,c.wc),(c.oa,c.on,c.oc),(c.ca,c.cn,c.cc),(0:Int),false,false,c.lo.b,(c.lo.a1,c.lo.n1,c.lo.c1),(c.lo.a2,c.lo.n2,c.lo.c2),c.hi.b,(c.hi.a1,c.hi.n1,c.hi.c1),(c.hi.a2,c.hi.n2,c.hi.c2),(),()]/\c.wn=h.length/\LgZ j m wz c (tZ l) (tV l) (rJ l):=hp.2.1 rfl;have jE:=a8 h2;clear hp h2;simp only[kM];go_simp;exact⟨_,rfl,rE,c,rfl,jE.out,L⟩
  .intro S f wz hI hp hl hS;obtain⟨c,gL,h2,L⟩:∃c:CrT,f 10= .agg #[n,p,(v,x,z),(A,s,B),(),(c.wa,c.wn,c.wc),(c.oa,c.on,c.oc),(c.ca,c.cn,c.cc),(0:Int),false,false,c.lo.b,(c.lo.a1,c.lo.n1,c.lo.c1),(c.lo.a2,c.lo.n2,c.lo.c2),c.hi.b,(c.hi.a1,c.hi.n1,c.hi.c1),(c.hi.a2,c.hi.n2,c.hi.c2),(),(),()]/\c.wn=h.length/\LgZ j m wz c (tZ l) (tV l) (rJ l):=hp.1 rfl;clear hp;obtain⟨bB,jG,eG,gT,k0⟩:=kR wz #[n,p,(v,x,z),(A,s,B),(),(c.wa,c.wn,c.wc),(c.oa,c.on,c.oc),(c.ca,c.cn,c.cc),(0:Int),false,false,c.lo.b,(c.lo.a1,c.lo.n1,c.lo.c1),(c.lo.a2,c.lo.n2,c.lo.c2),c.hi.b,(c.hi.a1,c.hi.n1,c.hi.c1),(c.hi.a2,c.hi.n2,c.hi.c2),(),(),()] 99;have b0:=a8 (aD eG (aD gT (aD h2 (L.ext eG))));clear eG gT k0 L h2;simp only[kM];go_simp;rw[<-jG];exact⟨_,rfl,b0.out.1,wz.heap.size,rfl,hI.size,c,b0.out.2⟩
  .intro S f wz hI hp hl hS;obtain⟨g,c,gG,bA,h1,h2,L⟩:∃(g:Nat) (c:CrT),f 11= .pointer g/\j.heap.size<=g/\Bx 99 wz g #[n,p,(v,x,z),(A,s,B),(),(c.wa,c.wn,c.wc),(c.oa,c.on,c.oc),(c.ca,c.cn,c.cc),(0:Int),false,false,c.lo.b,(c.lo.a1,c.lo.n1,c.lo.c1),(c.lo.a2,c.lo.n2,c.lo.c2),c.hi.b,(c.hi.a1,c.hi.n1,c.hi.c1),(c.hi.a2,c.hi.n2,c.hi.c2),(),(),()]/\c.wn=h.length/\LgZ j m wz c (tZ l) (tV l) (rJ l):=hp.1 rfl;clear hp;have b0:=a8 (aD h1 (aD h2 L));clear h1 h2 L;simp only[kM];go_simp;exact⟨_,rfl,rE,g,rfl,bA,c,b0.out⟩
 case en=>
  intro f bB hI hp;obtain⟨g,c,b3,c9,bC,h0,a7⟩:∃(g:Nat) (c:CrT),f 12= .pointer g/\j.heap.size<=g/\Bx 99 bB g #[n,p,(v,x,z),(A,s,B),(),(c.wa,c.wn,c.wc),(c.oa,c.on,c.oc),(c.ca,c.cn,c.cc),(0:Int),false,false,c.lo.b,(c.lo.a1,c.lo.n1,c.lo.c1),(c.lo.a2,c.lo.n2,c.lo.c2),c.hi.b,(c.hi.a1,c.hi.n1,c.hi.c1),(c.hi.a2,c.hi.n2,c.hi.c2),(),(),()]/\c.wn=h.length/\LgZ j m bB c (tZ l) (tV l) (rJ l):=hp.2.2.2.2.2.2.2.2.2.2.2.2.1 rfl;simp only[b3];have h3:=a8 (aD h0 a7);have k1:=hI;have k2:=a8 k1;have eN:=a8 bC;have:g<bB.heap.size:=bC.lt;have:w.heap.size≠g:=om;clear hp b3 h0 a7 bC hI;have e0:=HC;clear HC;have HC:Hid (∀wz,(Ext j wz/\True)->wz.cell? w.heap.size=some (.string n)/\wz.cell? (w,1)=some (.string p)/\wz.cell? (w,2)=some (.slice v x z)/\wz.cell? (w,3)=some (.slice A s B)):=a8 λwz a4=>e0.out wz a4.1
  go_upto_region 2 with(fail);apply mQ [11,15] (λ_ bD y=>Chg g bD y/\∃k3,Bx 99 bD g k3) (NwI j m j bB g n p c r h)
   [kN _,kN _,kN _,kN (v,x,z),⟨λa9 w=>∃ad cap,a9= .slice ad r.length cap/\OL 81 10 j (RwP j m) w a9 (r.map F8),λ_=>false,λa9 a b q ⟨ad,cap,h1,h2⟩=>⟨ad,cap,h1,OL.ext h2 q λ_ _ d=>d.keepT q.keepT⟩,λ_ _ a9 a b Z ⟨ad,cap,h1,h2⟩=>⟨ad,cap,h1,(let ⟨_,V⟩:=Z.2;OL.chgK h2 Z.1 V de λ_ _ d=>d.keepT (Z.1.keepS V de).keepT)⟩⟩,
    kN _,kN (A,s,B),⟨λa9 w=>∃ad cap,a9= .slice ad h.length cap/\OL 86 13 j (VrP j m) w a9 h,λ_=>false,λa9 a b q ⟨ad,cap,h1,h2⟩=>⟨ad,cap,h1,OL.ext h2 q λ_ _ d=>d.keepT q.keepT⟩,λ_ _ a9 a b Z ⟨ad,cap,h1,h2⟩=>⟨ad,cap,h1,(let ⟨_,V⟩:=Z.2;OL.chgK h2 Z.1 V de λ_ _ d=>d.keepT (Z.1.keepS V de).keepT)⟩⟩,
    kN _,kN _,kN _,kV,kN _,kN _,kN _,kV] [] [] [] [] [] ?ie ?i0 ?st2 ?en2 ?hcs sm ?hm2 ?hk2 ?hf2
  case hf2=>intro f;simp only[mJ,mO,aQ,aV,aZ,Nat.reduceAdd];rfl
  case hm2=>kernel_rfl
  case hk2=>kernel_rfl
  case hcs=>
   exact Ob4
  case i0=>exact ⟨k2.out,Chg.refl _ _,v,x,z,A,s,B,eN.out,λd=>(by cases d),λd=>(by cases d)⟩
  case ie=>
   rintro S bD y q ⟨b1,b4,M,N,O,R,T,U,I,a1,a2⟩;exact⟨b1.trans q,b4.trans (q.chg _),M,N,O,R,T,U,I.ext q,λd=>OL.ext (a1 d) q λ_ _ d=>d.keepT q.keepT,λd=>OL.ext (a2 d) q λ_ _ d=>d.keepT q.keepT⟩
  case st2=>
   refine⟨oX,oX,oX,?_,?_,oX,?_,?_,oX,oX,oX,?_,oX,oX,oX,?_,trivial⟩
   .intro S f wz hI hp hl hS;have Y:f 2= .pointer (w,2):=hp.1 rfl;have K:=(e0.out wz hI.1).2.2.1;exact rm4
   .intro S f wz hI hp hl hS;have Y:f 3=(v,x,z):=hp.1 rfl;refine oC (P:=prog) #[f 3] func42 rfl rfl ?_;rw[Y];refine(NY k m b9 _ r wz (eB.out wz hI.1).1 g2 g3 g4 g5 om).mono ?_;rintro e w' ⟨ad,cap,rfl,h1,h2⟩;exact Xb7
   .intro S f wz hI hp hl hS;have Y:f 5= .pointer (w,3):=hp.1 rfl;have K:=(e0.out wz hI.1).2.2.2;exact rm4
   .intro S f wz hI hp hl hS;have Y:f 6=(A,s,B):=hp.1 rfl;refine oC (P:=prog) #[f 6] func43 rfl rfl ?_;rw[Y];refine(O0 k m _ h wz (eB.out wz hI.1).2 hW g5 om).mono ?_;rintro e w' ⟨ad,cap,rfl,h1,h2⟩;rw[List.map_id]at h1;exact Xb7
   .intro S f wz hI hp hl fA hS;have b3:f 10= .pointer (g,2):=hp.1 rfl;obtain⟨ad,cap,D,c2⟩:∃ad cap,f 4= .slice ad r.length cap/\OL 81 10 j (RwP j m) wz (f 4) (r.map F8):=hp.2.1 rfl;rw[D]at c2;obtain⟨b1,b4,M,N,O,R,T,U,I,a1,a2⟩:=hI;have c3:∀C,Chg g wz C->Bx 99 C g #[n,p,.slice ad r.length cap,(R,T,U),(),(c.wa,c.wn,c.wc),(c.oa,c.on,c.oc),(c.ca,c.cn,c.cc),(0:Int),false,false,c.lo.b,(c.lo.a1,c.lo.n1,c.lo.c1),(c.lo.a2,c.lo.n2,c.lo.c2),c.hi.b,(c.hi.a1,c.hi.n1,c.hi.c1),(c.hi.a2,c.hi.n2,c.hi.c2),(),(),()]->NwI j m j bB g n p c r h (onS S 0) C:=λC K bC=>
     have b5:=(K.keepS I de).keepT;⟨b1.step K c9,b4.trans K,ad,r.length,cap,R,T,U,bC,λ_=>OL.chgK c2 K I de λ_ _ d=>d.keepT b5,λd=>OL.chgK (a2 (by simpa[onS]using d)) K I de λ_ _ d=>d.keepT b5⟩
    exact kM.mono2 (R:=Chg g) (p:=λ_ C=>Bx 99 C g #[.string n,.string p,.slice ad r.length cap,.slice R T U,.slice none 0 0,.slice c.wa c.wn c.wc,.slice c.oa c.on c.oc,.slice c.ca c.cn c.cc,.int .i64 0,.bool false,.bool false,.bool c.lo.b,.slice c.lo.a1 c.lo.n1 c.lo.c1,.slice c.lo.a2 c.lo.n2 c.lo.c2,.bool c.hi.b,.slice c.hi.a1 c.hi.n1 c.hi.c1,.slice c.hi.a2 c.hi.n2 c.hi.c2,.slice none 0 0,.slice none 0 0,.slice none 0 0]/\Chg g wz C) (λa9 C Z D=>⟨⟨Z,_,I⟩,c3 C Z D.1,trivial⟩) (λD=>⟨c3 wz D.2 D.1,trivial⟩) (qV (P:=prog) g 2 99 _ [n,p,(M,N,O),(R,T,U),(),(c.wa,c.wn,c.wc),(c.oa,c.on,c.oc),(c.ca,c.cn,c.cc),(0:Int),false,false,c.lo.b,(c.lo.a1,c.lo.n1,c.lo.c1),(c.lo.a2,c.lo.n2,c.lo.c2),c.hi.b,(c.hi.a1,c.hi.n1,c.hi.c1),(c.hi.a2,c.hi.n2,c.hi.c2),(),(),()] ad r.length cap _ _ rfl rfl b3 D kr I (by show 2<20;omega) (λw' K fB _=>⟨fB,K⟩))
   .intro S f wz hI hp hl fA hS;have b3:f 14= .pointer (g,3):=hp.1 rfl;obtain⟨ad,cap,D,c2⟩:∃ad cap,f 7= .slice ad h.length cap/\OL 86 13 j (VrP j m) wz (f 7) h:=hp.2.1 rfl;rw[D]at c2;obtain⟨b1,b4,M,N,O,R,T,U,I,a1,a2⟩:=hI;have c3:∀C,Chg g wz C->Bx 99 C g #[n,p,(M,N,O),.slice ad h.length cap,(),(c.wa,c.wn,c.wc),(c.oa,c.on,c.oc),(c.ca,c.cn,c.cc),(0:Int),false,false,c.lo.b,(c.lo.a1,c.lo.n1,c.lo.c1),(c.lo.a2,c.lo.n2,c.lo.c2),c.hi.b,(c.hi.a1,c.hi.n1,c.hi.c1),(c.hi.a2,c.hi.n2,c.hi.c2),(),(),()]->NwI j m j bB g n p c r h (onS S 1) C:=λC K bC=>
     have b5:=(K.keepS I de).keepT;⟨b1.step K c9,b4.trans K,M,N,O,ad,h.length,cap,bC,λd=>OL.chgK (a1 (by simpa[onS]using d)) K I de λ_ _ d=>d.keepT b5,λ_=>OL.chgK c2 K I de λ_ _ d=>d.keepT b5⟩
    exact kM.mono2 (R:=Chg g) (p:=λ_ C=>Bx 99 C g #[.string n,.string p,.slice M N O,.slice ad h.length cap,.slice none 0 0,.slice c.wa c.wn c.wc,.slice c.oa c.on c.oc,.slice c.ca c.cn c.cc,.int .i64 0,.bool false,.bool false,.bool c.lo.b,.slice c.lo.a1 c.lo.n1 c.lo.c1,.slice c.lo.a2 c.lo.n2 c.lo.c2,.bool c.hi.b,.slice c.hi.a1 c.hi.n1 c.hi.c1,.slice c.hi.a2 c.hi.n2 c.hi.c2,.slice none 0 0,.slice none 0 0,.slice none 0 0]/\Chg g wz C) (λa9 C Z D=>⟨⟨Z,_,I⟩,c3 C Z D.1,trivial⟩) (λD=>⟨c3 wz D.2 D.1,trivial⟩) (qV (P:=prog) g 3 99 _ [n,p,(M,N,O),(R,T,U),(),(c.wa,c.wn,c.wc),(c.oa,c.on,c.oc),(c.ca,c.cn,c.cc),(0:Int),false,false,c.lo.b,(c.lo.a1,c.lo.n1,c.lo.c1),(c.lo.a2,c.lo.n2,c.lo.c2),c.hi.b,(c.hi.a1,c.hi.n1,c.hi.c1),(c.hi.a2,c.hi.n2,c.hi.c2),(),(),()] ad h.length cap _ _ rfl rfl b3 D kr I (by show 3<20;omega) (λw' K fB _=>⟨fB,K⟩))
  case en2=>
   intro f C hI hp;clear hp;obtain⟨b1,b4,M,N,O,R,T,U,I,a1,a2⟩:=hI;have h4:Hid (NwJ j m j g n p M N O R T U c r h l 0 C):=a8 ⟨b1,none,0,I,gM _ _ _ _,h3.out.2.chg b4 eN.out,a1 rfl,a2 rfl⟩;have k4:=(e0.out C b1).2.2.2;clear eN b1 b4 I a1 a2;go_wp2_with fail;clear k4;go_loopw [35] (λbD wr=>∃fC:Nat,fC<=s/\bD= .int .i64 (fC:Int)/\Hid (NwJ j m j g n p M N O R T U c r h l fC wr)) (λbD _=>((s:Int) - intOf bD).toNat)
   case atStart=>exact ⟨0,zl,rfl,h4⟩
   case round=>
    obtain⟨i,k5,rfl,e1⟩:=hrel;clear h4;rcases aI k5 with fD |fD
    .have k6:¬(i:Int)<s:=om;obtain⟨bS,b6,b7,E,bT,a7,c4,c5⟩:=e1.out;subst fD;rw[aK (by rw[<-a6.out.1];exact lr)]at bT;have e2:c.cn=(rJ l).length:=SL.lenS (OL.sl a7.cs om);have:c.cn<=60000:=om;obtain⟨h5,h6,_⟩:=RM c.cn om;have h7:=E.cell 7;have f19:=E.free 19;obtain⟨_,k7,fE,k8,k9⟩:=kR wr h5 55;have kA:=(E.ext fE).cell 19;have f19:=(E.ext fE).free 19;rw[k7]at kA f19;obtain⟨b8,bE⟩:=ex (wr.setCell (g,19) (wr,c.cn,c.cn));have a0:Chg g wr b8:=by rw[bE];exact Chg.setCell _ _ 19 _
     have h8:Bx 99 b8 g #[n,p,(M,N,O),(R,T,U),(b6,i,b7),(c.wa,c.wn,c.wc),(c.oa,c.on,c.oc),(c.ca,c.cn,c.cc),(0:Int),false,false,c.lo.b,(c.lo.a1,c.lo.n1,c.lo.c1),(c.lo.a2,c.lo.n2,c.lo.c2),c.hi.b,(c.hi.a1,c.hi.n1,c.hi.c1),(c.hi.a2,c.hi.n2,c.hi.c2),(),(),(wr,c.cn,c.cn)]:=by rw[bE];exact E.set 19 _
     have h9:b8.heap.size=wr.heap.size:=by rw[bE];simp
     obtain⟨c0,kB,a5,fG,kC⟩:=kR b8 h5 55;rw[h9]at fG;have:g<wr.heap.size:=E.lt;have hA:rI wr c0:=λt2 hB hC h1 h2=>a5.keepT t2 hB hC h1 ((a0.keepS E de).keepT t2 hB hC h1 h2)
     have hF:Hid (∃J e3 t,w.heap.size<=J/\some (⟨g,0,none⟩:Addr)=some ⟨e3,0,none⟩/\nX J m c0 e3 t [] (List.replicate (rJ l).length [])/\LgF J m c0 t (h.map (·.1)) (tZ l) (tV l) (rJ l)/\t.nn=h.length/\t.wn=h.length/\t.cn=(rJ l).length/\t.n0=n/\t.n1=p/\OL 81 10 J (RwP J m) c0 (t.ra,t.rn,t.rc) (r.map F8)/\OL 86 13 J (VrP J m) c0 (t.va,t.vn,t.vc) h/\Ext w c0):=a8 ⟨j.heap.size,g,⟨n,p,M,N,O,R,T,U,b6,i,b7,c.wa,c.wn,c.wc,c.oa,c.on,c.oc,c.ca,c.cn,c.cc,c.lo,c.hi⟩,om,rfl,
      ⟨none,0,0,some ⟨wr.heap.size,0,none⟩,c.cn,c.cn,h8.ext a5,c9,rfl,by rw[bW];exact e2,OL.nil _ _ _ _ _,by
       rw[<-e2];exact aa6 _ _ _ _ om om (by rw[<-h6];exact fG)⟩,
      ⟨lL (mF bT a0 E de) a5,lL (mF a7.bs a0 E de) a5,a7.ob.keepT hA,OL.ext (OL.chgK a7.cs a0 E de λ_ _ d=>d.keepT (a0.keepS E de).keepT) a5 λ_ _ d=>d.ext a5⟩,a6.out.1,h3.out.1,e2,rfl,rfl,
      OL.ext (OL.chgK c4 a0 E de λ_ _ d=>d.keepT (a0.keepS E de).keepT) a5 λ_ _ d=>d.keepT a5.keepT,OL.ext (OL.chgK c5 a0 E de λ_ _ d=>d.keepT (a0.keepS E de).keepT) a5 λ_ _ d=>d.keepT a5.keepT,((hY.out.trans bS).step a0 om).trans a5⟩
     clear E bT a7 c4 c5 bS h8 fG a0 hA e2 a5 kC h6 e1 fE k8 k9 h9;go_wp2;go_ret;rw[<-bE,<-kB];obtain⟨J,e3,t,bA,h1,h2⟩:=hF.out;refine⟨J,bA,e3,congrArg (λg0=>Ending.returned (Value.pointer g0)) h1,t,h2⟩
    .have k6:(i:Int)<s:=om;obtain⟨F,g1⟩:∃F,h[i]? =some F:=⟨_,aA (by rw[<-a6.out.1];exact fD)⟩;obtain⟨bS,b6,b7,E,bT,a7,c4,c5⟩:=e1.out;obtain⟨_,_,_, -,kD, -,hD⟩:=(eB.out _ rE).2.opn;obtain⟨kE,kG,l0,_,l1,hE,bG,d,bO,I,l2,l3⟩:=hD i F g1
     cases kD
     subst l0
     cases I
     have X:=hE wr bS;have l4:wr.cell? (kE,kG+i*13)=some (.string F.1):=X 0 _ rfl;have eD:=X 1 _ rfl;have eE:=X 2 _ rfl;have hc3:=X 3 _ rfl;have l5:=X 4 _ rfl;have a0:=X 5 _ rfl;have l6:=X 6 _ rfl;have h7:=X 7 _ rfl;have l7:=X 8 _ rfl;have l9:=X 9 _ rfl;have lA:=X 10 _ rfl;have lB:=X 11 _ rfl;have lC:=X 12 _ rfl;obtain⟨b8,bE,b2,hG,lD⟩:=kR wr #[F.1,F.2.1,F.2.2.1.1,F.2.2.1.2.1,bG.b,(bG.a1,bG.n1,bG.c1),(bG.a2,bG.n2,bG.c2),d.b,(d.a1,d.n1,d.c1),(d.a2,d.n2,d.c2),bO.b,(bO.a1,bO.n1,bO.c1),(bO.a2,bO.n2,bO.c2)] 86;have hH:=a8 (bS.trans b2);have bP:=a8 (E.ext b2);have b0:=a8 (aD (lL bT b2) (aD (a7.ext b2) (aD (OL.ext c4 b2 λ_ _ d=>d.keepT b2.keepT) (OL.ext c5 b2 λ_ _ d=>d.keepT b2.keepT))));have lE:Hid (((h.take (i+1)).map (·.1)).map Value.string=((h.take i).map (·.1)).map Value.string++ [.string F.1]):=a8 (by rw[mP g1,bY,bY];rfl);have lG:j.heap.size<=b8.heap.size:=hH.out.size;have HC:Hid (∀wz,Ext b8 wz->wz.cell? (g,4)=some (.slice b6 i b7)/\wz.cell? wr.heap.size=some (.string F.1)):=a8 λwz a4=>⟨(bP.out.ext a4).cell 4,(hG.ext a4).cell 0⟩
     clear X hE l1 l2 l3 g1 bS E bT a7 c4 c5 hD hG lD b2 e1;go_upto_region 7 with(fail);rw[<-bE];clear bE l4 eD eE hc3 l5 a0 l6 h7 l7 l9 lA lB lC;apply wpXB j 8 9 13 j 1 (i+1) 9 (b6,i,b7) (((h.take i).map (·.1)).map Value.string) (isN [F.1]) 99 g 4 [n,p,(M,N,O),(R,T,U),(b6,i,b7),(c.wa,c.wn,c.wc),(c.oa,c.on,c.oc),(c.ca,c.cn,c.cc),(0:Int),false,false,c.lo.b,(c.lo.a1,c.lo.n1,c.lo.c1),(c.lo.a2,c.lo.n2,c.lo.c2),c.hi.b,(c.hi.a1,c.hi.n1,c.hi.c1),(c.hi.a2,c.hi.n2,c.hi.c2),(),(),()]
      [kN _,kN _,kN _,kN _,kN _,kN (b6,i,b7),kN _,kN F.1,LN 9 (isN [F.1]) KS,kV,kN _,kN _,kN _,kV] [5,7] [(10,8),(11,8),(12,8),(13,8)] hH.out bP.out ?st3 ?en3 ?hf3 ?hm3 rfl ?hk3 ?hc3 KS
     case hf3=>intro f;simp only[mJ,mO,aQ,aV,aZ,Nat.reduceAdd];rfl
     case hm3=>kernel_rfl
     case hk3=>kernel_rfl
     case hc3=>intro k a b5;repeat (first |rfl |exact absurd rfl b5 | (rcases k with _ |k;first |rfl |exact absurd rfl b5))
     case st3=>
      refine⟨oXb,oXb,oXb,oXb,oXb,oXb,oXb,oXb,?_,?_,oXb,oXb,oXb,?_,trivial⟩
      .intro S f wz hI hp hl hS;have m0:f 7=F.1:=hp.1 rfl;exact lH (P:=prog) 69 9 1 1 _ [F.1] rfl rfl underlying69 kr kr (by simp only[Act.eval];exact congrArg (λg0=> [(0,g0)]) m0) rfl om om om (by simp[Value.cells]) (λw' q V=>⟨_,_,rfl,by simpa[Value.cells]using V,rfl⟩)
      .intro S f wz hI hp hl fA hS;have m1:f 5=(b6,i,b7):=hp.1 rfl;obtain⟨m2,_,m3,m4,rfl⟩:=hp.2.1 rfl;exact FP (P:=prog) _ _ 69 i 16 [F.1] m2 hI fA (hS.2.1 rfl) rfl rfl underlying69 kr kr om m1 b0.out.1 m3 m4 rfl (by intro u hJ;simp at hJ;rcases hJ with rfl;rfl) om om lG lr de rfl (λ_ _=>rfl)
      .intro S f wz hI hp hl m5 hS;have gL:f 12= .pointer (g,4):=hp.1 rfl;exact FQ hI (hS.1 rfl) m5 rfl rfl gL rfl kr (by show 4<20;omega) de c9 de (λ_ _ _ _ _ d=>d)
     case en3=>
      intro f hK hL hM m6 hp;obtain⟨m7,m8,_,mA,hN,rfl,hO⟩:=m6;clear mA;have c1:Fr 9 g b8 hK:=hM;have HJ1:Hid (NwJ j m j g n p M N O R T U c r h l (i+1) hK):=a8 ⟨hL,m7,m8,hO,by rw[lE.out];exact hN,b0.out.2.1.fr c1 bP.out,OL.frK b0.out.2.2.1 c1 bP.out de de λ_ _ d=>d.keepT (GM c1 bP.out),OL.frK b0.out.2.2.2 c1 bP.out de de λ_ _ d=>d.keepT (GM c1 bP.out)⟩;clear hp hN hO hM hL c1;exact vh5
theorem oG(n:Int)(w:World)(h0: -9223372036854775808<=n)(h1:n<=9223372036854775807):
  Calls prog 22 #[n] w λe b=>∃c,e= .returned c/\FrQ w b c (n:Rat)/\Ext w b:=by
 have:=UN n;have:=EA (z:=n) om;go_enter func22,ntmps22;exact Nv7
theorem YP:szQ ((0:Int):Rat)<=1/\szQ ((1:Int):Rat)<=1/\szQ ((2:Int):Rat)<=1/\szQ ((3:Int):Rat)<=1/\szQ ((4:Int):Rat)<=1/\szQ (((-1:Int)):Rat)<=1:=by decide+kernel
theorem ai8{w:World}{f:ByteArray}{h:QC}{b:Option Addr}{r:RwR}(i:Bx 81 w c #[f,r.1.1,r.1.2.1,l.b,(l.a1,l.n1,l.c1),(l.a2,l.n2,l.c2),h.b,(h.a1,h.n1,h.c1),(h.a2,h.n2,h.c2),(b,e,v)])(j:SpV d w l h r.1)(k:TL d w (b,e,v) r.2):RwL d w (.slice c 1 1) [r]:=by
 refine⟨some ⟨c,0,none⟩,1,rfl,lr,om,.inr ⟨c,0,rfl,λm _ hx=> ?_⟩⟩;have n:m=0:=EV3;subst n;simp only[bL,Option.some.injEq]at hx;subst hx;exact⟨_,rfl,λg _ p=>by rw[show 0+0*10+g=g by omega,i.cell];exact p,f,l,h,b,e,v,rfl,j,k⟩
theorem aj2{b:Nat}{w:World}{h c:QC}{r:ByteArray×VrR}(f:Bx 86 w b #[r.1,r.2.1,r.2.2.1.1,r.2.2.1.2.1,l.b,(l.a1,l.n1,l.c1),(l.a2,l.n2,l.c2),h.b,(h.a1,h.n1,h.c1),(h.a2,h.n2,h.c2),c.b,(c.a1,c.n1,c.c1),(c.a2,c.n2,c.c2)])(g:SpV d w l h r.2.2.1)(i:IsR w (.agg #[c.b,(c.a1,c.n1,c.c1),(c.a2,c.n2,c.c2)]) r.2.2.2 d):VnN d w (.slice b 1 1) [r]:=by
 refine⟨some ⟨b,0,none⟩,1,rfl,lr,om,.inr ⟨b,0,rfl,λj _ hx=> ?_⟩⟩;have k:j=0:=EV3;subst k;simp only[bL,Option.some.injEq]at hx;subst hx;exact⟨_,rfl,λe _ m=>by rw[show 0+0*13+e=e by omega,f.cell];exact m,l,h,c,rfl,g,i⟩
theorem VnN.vnl{w:World}(d:VnN c w r Y):VnL w r (Y.map (·.1)):=SL.mapL d λ_ b _ ⟨a,e,f,g,_,_⟩=>⟨b.2.1,b.2.2.1.1,b.2.2.1.2.1,a,e,f,g⟩
def YH:RwR:=((false,true,((0:Int):Rat),((3:Int):Rat)),[((0:Int),((2:Int):Rat))])
def SM:ByteArray×VrR:=(⟨#[120]⟩,(true,(true,true,((0:Int):Rat),((4:Int):Rat)),(((-1:Int)):Rat)))
theorem JN(w:World):Calls prog 18 #[] w λd x=>∃e7 e8 E F,d= .returned (.agg #[.string e7,.string e8,.slice E 1 1,.slice F 1 1])/\RwL 1 x (.slice E 1 1) [YH]/\VnN 1 x (.slice F 1 1) [SM]/\Ext w x:=by
 obtain⟨I,_,e9,eA,eB,eC⟩:=YP;have:(68719476736:Nat)<=LIM:=lq;obtain⟨eD,J,K,L,eE⟩:=kR w #[.string ⟨#[]⟩,.string ⟨#[]⟩,(),()] 25;have y:=a8 (aD K L);clear K L eE;go_enter func18,ntmps18;go_wp2_with fail;rw[<-J];clear J;refine(oG 0 eD om om).mono ?_;rintro d eG ⟨_,rfl,M,z⟩;obtain⟨N,O,P,R,S,T,U,rfl,V⟩:=M.opn;clear M;go_wp2_with fail;refine(oG 3 eG om om).mono ?_;rintro d eN ⟨_,rfl,X,n⟩;obtain⟨Y,Z,a0,a1,a2,a3,a4,rfl,a5⟩:=X.opn;clear X;go_wp2_with fail;refine(oG 2 eN om om).mono ?_;rintro d p ⟨_,rfl,a6,k⟩;obtain⟨fA,fB,fC,fD,fE,fG,g0,rfl,a7⟩:=a6.opn;clear a6;go_wp2_with fail;obtain⟨a9,b0,l,b1,b2⟩:=kR p #[(0:Int),fA,(fB,fC,fD),(fE,fG,g0)] 67;obtain⟨b3,b4,g,b5,g1⟩:=kR a9 #[.string ⟨#[114]⟩,false,true,N,(O,P,R),(S,T,U),Y,(Z,a0,a1),(a2,a3,a4),(p,1,1)] 81;rw[<-b0,<-b4];have b6:=ah7 (B:=0) (k:=1) zl (b1.ext g) (((a7.ext l).ext g).mono zl) e9;have A:=a8 (aD b5 (aD ((((V.ext n).ext k).ext l).ext g) (aD (((a5.ext k).ext l).ext g) b6)));have g2:=a8 ((((z.trans n).trans k).trans l).trans g);have b7:a9.heap.size=p.heap.size+1:=b2;rw[b7]at A;obtain⟨B,b8⟩:=ex (p.heap.size+1);rw[<-b8]at A ⊢;have:w.heap.size<B:=by have:=y.out.2.lt;have:=(((z.trans n).trans k)).size;omega
 clear b0 b4 b1 b5 V a5 a7 z n k l g b6 b2 g1 b8 b7;refine(oG 0 b3 om om).mono ?_;rintro d g3 ⟨_,rfl,b9,C⟩;obtain⟨bA,bB,bC,bD,bE,bG,bO,rfl,q⟩:=b9.opn;clear b9;go_wp2_with fail;refine(oG 4 g3 om om).mono ?_;rintro d g4 ⟨_,rfl,bP,h⟩;obtain⟨bR,bS,bT,c0,rE,c1,c2,rfl,r⟩:=bP.opn;clear bP;go_wp2_with fail;refine(oG (-1) g4 om om).mono ?_;rintro d b ⟨_,rfl,c3,e⟩;obtain⟨c4,c5,c6,c7,c8,c9,e0,rfl,s⟩:=c3.opn;clear c3;have e1:=a8 (((g2.out.trans C).trans h).trans e);have g5:=a8 ((C.trans h).trans e);have c:=y.out.2.ext e1.out;have g6:=a8 c;have:b.cell? w.heap.size=some (.string ⟨#[]⟩):=c.cell 0;have:=c.free 0;have:b.cell? (w,1)=some (.string ⟨#[]⟩):=c.cell 1;have:=c.free 1;have:b.cell? (w,2)=some (.slice none 0 0):=c.cell 2;have:=c.free 2;have:b.cell? (w,3)=some (.slice none 0 0):=c.cell 3;have:=c.free 3;have:w.heap.size<b.heap.size:=c.lt;have g7:=a8 (aD q (aD r (aD s (aD h e))));obtain⟨t,u⟩:=ex ((((b.setCell w (.string ⟨#[]⟩)).setCell (w,1) (.string ⟨#[99,111,115,116]⟩)).setCell (w,2) (.slice B 1 1)).setCell (w,3) (.slice b 1 1));have i:Chg w b t:=by rw[u];exact(((Chg.setCell _ _ 0 _).trans (Chg.setCell _ _ 1 _)).trans (Chg.setCell _ _ 2 _)).trans (Chg.setCell _ _ 3 _)
 have D:Bx 25 t w #[.string ⟨#[]⟩,.string ⟨#[99,111,115,116]⟩,(B,1,1),(b,1,1)]:=by rw[u];exact(((c.set 0 _).set 1 _).set 2 _).set 3 _
 have e2:t.heap.size=b.heap.size:=by rw[u];simp
 obtain⟨g9,gA,f,m,gG⟩:=kR t #[.string ⟨#[120]⟩,true,true,true,bA,(bB,bC,bD),(bE,bG,bO),bR,(bS,bT,c0),(rE,c1,c2),c4,(c5,c6,c7),(c8,c9,e0)] 86;rw[e2]at m;have e3:=a8 (aD i (aD (D.ext f) (aD f m)));clear D i e2 f m gG;clear c q r s h e C;go_wp2;rw[<-u,<-gA];refine l8 0 25 w 25 _ _ kr rfl e3.out.2.1 underlying25 rfl kr rfl ?_;obtain⟨i,D,f,m⟩:=e3.out;obtain⟨q,r,s,h,e⟩:=g7.out;have v:Ext b3 b:=g5.out;have gL:=(i.keepS g6.out de).keepT;have j:rI b g9:=λt2 e4 e5 e6 gT=>f.keepT t2 e4 e5 e6 (gL t2 e4 e5 e6 gT)
 obtain⟨h0,h1,h2,h3⟩:=A.out;refine⟨_,_,_,_,rfl,?_,?_,((y.out.1.trans e1.out).step i lr).trans f⟩
 .exact ai8 (l:=(⟨N,O,P,R,S,T,U⟩:QC)) (h:=(⟨Y,Z,a0,a1,a2,a3,a4⟩:QC)) (r:=YH) (((h0.ext v).chg i om).ext f) ⟨((h1.ext v).keepT j).isR I om,((h2.ext v).keepT j).isR eA om⟩ (((h3.ext v).keepT j).tl om)
 .exact aj2 (l:=(⟨bA,bB,bC,bD,bE,bG,bO⟩:QC)) (h:=(⟨bR,bS,bT,c0,rE,c1,c2⟩:QC)) (c:=(⟨c4,c5,c6,c7,c8,c9,e0⟩:QC)) (r:=SM) m ⟨(((q.ext h).ext e).keepT j).isR I om,((r.ext e).keepT j).isR eB om⟩ ((s.keepT j).isR eC om)
theorem smpP:(([YH],[SM].map (·.2)):PbR)=pS:=by
 have b:((0:Int):Rat)=0:=by decide+kernel
 have c:((2:Int):Rat)=2:=by decide+kernel
 have d:((3:Int):Rat)=3:=by decide+kernel
 have e:((4:Int):Rat)=4:=by decide+kernel
 have f:(((-1:Int)):Rat)= -1:=by decide+kernel
 unfold YH SM pS;rw[b,c,d,e,f];rfl
theorem ZP:((1:Int):Rat) / ((2:Int):Rat)=mkRat 1 2:=by decide+kernel
theorem ZR:szQ (mkRat 1 2)<=1/\szD (mkRat 1 2)<=68719476736/\szD ((1:Int):Rat)<=5/\szD ((2:Int):Rat)<=5:=by decide+kernel
theorem LgF.le{b c K':Nat}{w:World}{d:LgS}{e:List ByteArray}{f:List Bool}{g:List (Int×Rat)}{h:List CR}(l:LgF b c w d e f g h)(k:c<=K'):LgF b K' w d e f g h:=by
 obtain⟨a,m,n,p,d1,d2,d3⟩:=l;exact⟨a,m,n.le k,p,d1,d2,λi q y r s=>(d3 i q y r s).le k⟩
theorem tl_1{w:World}{x:QC}(g:Bx 67 w c #[D,x.b,(x.a1,x.n1,x.c1),(x.a2,x.n2,x.c2)])(h:IsR w (qv x) u d):TL d w (.slice c 1 1) [(D,u)]:=by
 refine⟨some ⟨c,0,none⟩,1,rfl,lr,om,.inr ⟨c,0,rfl,λb _ e=> ?_⟩⟩;have f:b=0:=by
  have:=(aH.1 e).1;simp at this;exact this
 subst f;simp only[bL,Option.some.injEq]at e;subst e;exact⟨_,rfl,λb _ f=>by rw[show 0+0*4+b=b by omega,g.cell];exact f,x.b,x.a1,x.n1,x.c1,x.a2,x.n2,x.c2,rfl,h⟩
theorem LgF.cl{w:World}(b:LgF d c w t A x j i)(e:c<=LIM):CL c w (t.ca,t.cn,t.cc) i:=b.cs.clP e
theorem JP(w:World):Calls prog 4 #[] w λe w'=>e= .returned true/\Ext w w':=by
 obtain⟨_,hM,_,_,_,hN⟩:=YP;obtain⟨hO,hP,hR,hS⟩:=ZR;have l1:(68719476736:Nat)<=LIM:=lq;go_enter func4,ntmps4;go_wp2_with fail;refine(JN w).mono ?_;rintro e hT ⟨hU,hV,hW,hX,rfl,b8,b9,P⟩;go_wp2_with fail;refine(KY 1 4 1 hU hV hW 1 1 hX 1 1 [YH] [SM] hT b8 b9 (by intro _ d;rw[aC.1 d];decide) de de de de de de de de (by rw[smpP];decide+kernel)).mono ?_;rw[smpP,conS,objS,whlS];rintro e bA ⟨g,i,b,bB,rfl,bC,bD,bE,bG,bO, -, -,bP,bR,bS⟩;have bT:b.cn=3:=bO;have c0:b.nn=1:=bE;have c1:b.wn=1:=bG;have R:=a8 (aD c0 (aD c1 bT));have c2:Hid (nX g 4 bA i b [] neS):=a8 bC;have E:Hid (LgF g 4 bA b nmS [true] obS csS):=a8 bD;have S:=a8 (aD bP bR);have hY:=a8 (P.trans bS);have c3:w.heap.size<=g:=aE P.size bB;clear b8 b9 bC bD bE bG bO c0 c1 bT bP bR P bS bB;go_wp2_with fail;refine(rS 1 _ om om).mono ?_;rintro e _ ⟨_,rfl,c4,c5⟩;go_wp2_with fail;refine(rS 2 _ om om).mono ?_;rintro e _ ⟨_,rfl,c6,T⟩;go_wp2_with fail;refine(MU _ _ ((1:Int):Rat) ((2:Int):Rat) 5 5 _ (c4.cq.ext T) c6.cq (by decide+kernel) hR hS om).mono ?_;rw[ZP];rintro e _ ⟨_,rfl,c7,c8⟩;go_wp2_with fail;refine(uI _ (mkRat 1 2) _ c7.cq hP).mono ?_;rintro e U ⟨_,rfl,c9,e0⟩;obtain⟨V,X,Y,Z,a0,a1,a2,rfl,e1⟩:=c9.opn;have hZ:=a8 (((c5.trans T).trans c8).trans e0);obtain⟨a3,e2,a4,i0,e3⟩:=kR U #[V,(X,Y,Z),(a0,a1,a2)] 37;obtain⟨e4,e5,a5,e6,i1⟩:=kR a3 #[(0:Int),V,(X,Y,Z),(a0,a1,a2)] 67;have e7:a3.heap.size=U.heap.size+1:=e3;have q:Hid (TL 1 e4 (.slice a3 1 1) usA):=a8 (tl_1 (x:=⟨V,X,Y,Z,a0,a1,a2⟩) e6 (((e1.ext a4).ext a5).isR hO om));have k:=a8 (hZ.out.trans (a4.trans a5));rw[e7]at q;obtain⟨_,a6⟩:=ex (U.heap.size+1);rw[<-a6]at q;clear c4 c6 c7 c9 e1 c5 T c8 e0 a4 a5 i0 e6 e3 i1 e7;go_wp2_with fail;rw[<-e2,<-e5,<-a6];clear e2 e5 a6;have l2:=yY;refine(AX g 4 10 i 4 1 2 1 1 8 8 8 9 b csS [] neS [true] _ usA 1 e4 (c2.out.ext k.out) ((E.out.cl om).ext k.out) (CD (E.out.ext k.out).bs (by rw[R.out.2.1];rfl)) q.out de de om rfl de de de rfl om de (by rw[yY];decide) (by rw[yY];decide+kernel) (by rw[yY];decide+kernel) (by rw[yY];decide) de de de de de de de om (by rw[yY];decide+kernel) (by rw[yY];decide+kernel) (by rw[yY];decide+kernel) de de de).mono ?_;rw[yY,rndS];rintro e e8 ⟨s,rfl,i2,e9,eA⟩;have i3:i2=[]:=List.eq_nil_iff_forall_not_mem.2 λeB v=>by
  have:=eA.2 eB v;rw[show usN neS usA=[]from by decide+kernel]at this
  cases this
 subst i3;clear eA;have eC:neS.length=3:=rfl;rw[eC];have a7:Hid (LgF g 4 e8 b nmS [true] obS csS):=a8 ((E.out.ext k.out).kp s);have a9:=a8 (aD (OL.kp (OL.ext S.out.1 k.out λ_ _ d=>d.keepT k.out.keepT) s de λ_ _ d=>d.keepT s.keepT) (OL.kp (OL.ext S.out.2 k.out λ_ _ d=>d.keepT k.out.keepT) s de λ_ _ d=>d.keepT s.keepT));have i4:=a8 (s.ext w c3 (hY.out.trans k.out));have eD:Hid (nX g 10 e8 i b [dA] (neS++ [[]])):=a8 e9;clear eC e9 E S c2 q;go_wp2_with fail;refine(oG (-1) _ om om).mono ?_;rintro e eE ⟨_,rfl,eG,eN⟩;obtain⟨fA,fB,fC,fD,fE,fG,g0,rfl,g1⟩:=eG.opn;obtain⟨g2,g3,b0,g4,i5⟩:=kR eE #[(3:Int),fA,(fB,fC,fD),(fE,fG,g0)] 67;have q:Hid (TL 1 g2 (.slice eE 1 1) usB):=a8 (tl_1 (x:=⟨fA,fB,fC,fD,fE,fG,g0⟩) g4 ((g1.ext b0).isR hN om));have m:=a8 (eN.trans b0);clear eG g1 eN b0 g4 i5;go_wp2_with fail;rw[<-g3];clear g3;refine(EL g 10 14 i 10 1 2 1 1 14 14 14 b csS [dA] (neS++ [[]]) _ usB 2 g2 (eD.out.ext m.out) (((a7.out.le om).cl om).ext m.out) q.out de de om (by rw[aB];rfl) de de de rfl om de (by rw[IV];decide) (by rw[IV];decide+kernel) (by rw[IV];decide+kernel) (by rw[IV];decide) de de de de de de de de).mono ?_;rw[IV,sumS];rintro e F ⟨t,rfl,x,g5, -⟩;have g6:(neS++ [[]]).length=4:=by rw[aB];rfl
 rw[g6];have g7:Hid (LgF g 4 F b nmS [true] obS csS):=a8 ((a7.out.ext m.out).kp t);have g9:=a8 (aD (OL.kp (OL.ext a9.out.1 m.out λ_ _ d=>d.keepT m.out.keepT) t de λ_ _ d=>d.keepT t.keepT) (OL.kp (OL.ext a9.out.2 m.out λ_ _ d=>d.keepT m.out.keepT) t de λ_ _ d=>d.keepT t.keepT));have i6:=a8 (t.ext w c3 (i4.out.trans m.out));have b1:Hid (nX g 14 F i b [dA,dB] (neS++ [[]]++ [x])):=a8 g5;clear g6 g5 a7 a9 eD q;go_wp2_with fail;have I:(neS++ [[]]++ [x]).length=5:=by rw[aB];rfl
 refine(H4 g 14 15 i 14 b csS [dA,dB] (neS++ [[]]++ [x]) 3 F b1.out ((g7.out.le om).cl om) de om (by rw[I];rfl) (by rw[I];decide) (by rw[I];decide) (by decide+kernel) (by decide+kernel) (by decide+kernel) de).mono ?_;rintro e J ⟨_,rfl,gA,gG⟩;have gL:mW (nA csS [dA,dB] 3)=dA.c:=by decide+kernel
 rw[gL]at gA;obtain⟨i7,j0,j1,y,z,A,d1,B,C,d2,rfl, -,gT, -⟩:=gA;obtain⟨_,h0,b2,h3,j2⟩:=kR J #[dA.c.1,(i7,j0,j1),y,(z,A,d1),(B,C,d2)] 39;have h4:=a8 (aD h3 (gT.ext b2));have j3:=a8 (gG.trans b2);clear gT gG b2 h3 j2 gL I;go_wp2_with fail;rw[<-h0];clear h0;refine(oG 1 _ om om).mono ?_;rintro e K ⟨_,rfl,h5,b3⟩;obtain⟨j4,j5,j6,jA,jB,jC,jD,rfl,h6⟩:=h5.opn;obtain⟨D,h7,L,h8,jE⟩:=kR K #[j4,(j5,j6,jA),(jB,jC,jD)] 37;have jG:Hid (QL 4 D (.slice K 1 1) [1]):=a8 (by
  refine⟨some ⟨K.heap.size,0,none⟩,1,rfl,lr,om,.inr ⟨K.heap.size,0,rfl,λk0 eB v=> ?_⟩⟩
  have l:k0=0:=by
   have:=(aH.1 v).1;simp at this;exact this
  subst l;simp only[bL,Option.some.injEq]at v;subst v
  exact⟨_,rfl,λh9 _ k1=>by rw[show 0+0*3+h9=h9 by omega,h8.cell];exact k1,by
   have:=(h6.ext L).isR (k:=4) (aE hM om) om
   rwa [show ((1:Int):Rat)=1 from by decide+kernel]at this⟩)
 have n:=a8 (j3.out.trans (b3.trans L));have hA:=a8 (b3.trans L);clear h5 h6 b3 L h8 jE;go_wp2_with fail;rw[<-h7];clear h7;have hB:RwL 4 D (b.ra,b.rn,b.rc) pS.1:=(OL.sl (OL.ext g9.out.1 n.out λ_ _ d=>d.keepT n.out.keepT) om).map λf k2 d=>d.rwv om
 have b4:VnN 4 D (b.va,b.vn,b.vc) [SM]:=(OL.sl (OL.ext g9.out.2 n.out λ_ _ d=>d.keepT n.out.keepT) om).map λf k2 d=>d.vrn om
 have hC:VrL 4 D (b.va,b.vn,b.vc) pS.2:=by
  have:=b4.vrl;rwa [show [SM].map (·.2)=pS.2 from congrArg Prod.snd smpP]at this
 refine(QN g i b (neS++ [[]]++ [x]) _ D ((b1.out.ext n.out).le om) ((g7.out.ext n.out).le om) R.out.1 R.out.2.1 ⟨b.n0,b.n1,b.ra,b.rn,b.rc,b.va,b.vn,b.vc,rfl,hB,hC⟩ b4.vnl jG.out).mono ?_;rintro e hD ⟨f,k3,k4,r,l,k5,b5,b6,rfl,M⟩;obtain⟨N,hE,O,hG,k6⟩:=kR hD #[(f.na,f.nn,f.nc),(f.wa,f.wn,f.wc),(f.oa,f.on,f.oc),(k3,3,k4),(2:Int),true,true,r.b,(r.a1,r.n1,r.c1),(r.a2,r.n2,r.c2),l.b,(l.a1,l.n1,l.c1),(l.a2,l.n2,l.c2),(k5,1,1),(b5,2,b6)] 75;have hH:=a8 (M.trans O);have HC:Hid (∀c,Ext N c->c.cell? (J,2)=some (.bool y)/\c.cell? (J,3)=some (.slice z A d1)/\c.cell? (J,4)=some (.slice B C d2)/\c.cell? (hD,14)=some (.slice b5 2 b6)):=a8 λc p=>by
  have b7:=h4.out.1.ext (((hA.out.trans M).trans O).trans p);exact⟨b7.cell 2,b7.cell 3,b7.cell 4,(hG.ext p).cell 14⟩
 have k7:Hid (∀c,Ext N c->nX g 14 c i b [dA,dB] (neS++ [[]]++ [x])):=a8 λc p=>b1.out.ext (n.out.trans (hH.out.trans p))
 have k8:Hid (∀c,Ext N c->FrQ F c (.agg #[y,(z,A,d1),(B,C,d2)]) dA.c.2.2):=a8 λc p=>h4.out.2.ext (((hA.out.trans M).trans O).trans p)
 have k9:Hid (∀c,Ext N c->Ext w c):=a8 λc p=>(i6.out.trans n.out).trans (hH.out.trans p)
 clear M O hG k6 hB b4 hC;go_upto_region 9 with(fail);rw[<-hE];clear hE;apply JY [kN _,kN true,kN true,kN _,kN true,kN true,kN true,kN _,kN true,kN true,kN true,kN _,kN true,kN true,kN true,kN true,kN true,kN true,kN _,kN (.agg #[y,(z,A,d1),(B,C,d2)]),nL (λf c=>FrQ 0 c f ((1:Int):Rat)) (λf a _ kA d=>d.ext kA),kN true,kN true,kN true,kN _,kN (5:Int),kN true,kN true,kN true,kN _,kN true,kN true,kN true,kN _,kN (.slice b5 2 b6),kN _,kN true,kN true,kN true] ?st ?en hF kr rfl kr
 case st=>
  refine⟨oX,oX,oX,oX,oX,oX,oX,oX,oX,oX,oX,oX,oX,oX,oX,oX,oX,oX,oX,oX,?_,?_,oX,oX,oX,?_,oX,oX,oX,oX,oX,oX,oX,oX,oX,oX,oX,oX,oX,trivial⟩
  .intro hI j c u h hJ hK;refine oGd rfl (h.1 rfl) ?_;refine oC (P:=prog) #[(1:Int)] func22 rfl rfl ?_;refine(oG 1 c om om).mono ?_;exact mn1
  .intro hI j c u h hJ hK;refine oGd rfl (h.2.2.2.1 rfl) ?_;have kB:j 19= .agg #[y,(z,A,d1),(B,C,d2)]:=h.1 rfl;have kC:FrQ 0 c (j 20) ((1:Int):Rat):=h.2.1 rfl;refine oC (P:=prog) #[j 19,j 20] func24 rfl rfl ?_;rw[kB];have hL:=k8.out c u;rw[show dA.c.2.2=((1:Int):Rat)from by decide+kernel]at hL;refine(WB _ _ _ _ _ c hL kC).mono ?_;exact DR3
  .intro hI j c u h hJ hK;refine oGd rfl (h.2.1 rfl) ?_;have kD:j 24= .pointer i:=h.1 rfl;refine oC (P:=prog) #[j 24] func10 rfl rfl ?_;rw[kD];refine(nV g 14 i b _ _ c (k7.out c u)).mono ?_;rintro e w' ⟨rfl,h2⟩;exact⟨_,rfl,h2,by rw[aB];rfl⟩
 case en=>
  intro j kE u h;have kG:j 38=true:=h.2.2.2.2.2.2.2.2.2.2.2.2.2.2.2.2.2.2.2.2.2.2.2.2.2.2.2.2.2.2.2.2.2.2.2.2.2.2.1 rfl;have l0:=a8 (k9.out kE u);clear h;simp only[kG];go_wp2;go_ret;exact⟨rfl,l0.out⟩
def vZ(o:Oper)(f:Nat->Value):Prop:=match o.guard with
 |none=>True
 |some (j,want)=>f j= .bool want
def tQ(ops:List Oper)(k:Nat)(f:Nat->Value):Prop:=match ops[k]? with
 |none=>True
 |some o=>vZ o f
def J7(ops:List Oper)(L:List PE)(f:Nat->Value)(w:World):List Edge->Prop
 | []=>True
 |e::l=>(Region.binds .any e=true->tQ ops e.on f->(L.getD e.on kV).p (f e.on) w)/\J7 ops L f w l
theorem TI{ops:List Oper}{e:List PE}{d:Nat->Value}{w:World}:∀(c:List Edge),(∀b∈c,Region.binds .any b=true->tQ ops b.on d->(e.getD b.on kV).p (d b.on) w)->J7 ops e d w c
 | [],_=>trivial
 |b::c,h=>⟨h b (aT ..),TI c λf g=>h f (aN _ g)⟩
def Z7(P:Program)(fr:(Nat->Value)->Array Value)(df:List Deferred)(w:World)(ops:List Oper)(L:List PE):List Oper->Nat->Prop
 | [],_=>True
 |o::l,k=>(∀(_:Nat->Bool) f w1,Ext w w1->J7 ops L f w1 o.after.toList->True->vZ o f->kM P {o with guard:=none} ⟨fr f,df⟩ f w1 Ext (L.getD k kV).p)/\Z7 P fr df w ops L l (k+1)
theorem TV{i:Program}{j:(Nat->Value)->Array Value}{k:List Deferred}{w:World}{ops:List Oper}{f:List PE}:∀(d:List Oper) (c:Nat),Z7 i j k w ops f d c->∀b o,d[b]? =some o->∀(_:Nat->Bool) e g,Ext w g->J7 ops f e g o.after.toList->True->vZ o e->kM i {o with guard:=none} ⟨j e,k⟩ e g Ext (f.getD (c+b) kV).p
 | [],_,_,b,o,h=>by simp at h
 |x::d,c,hs,b,o,h=>by
  cases b with
  |zero=>
   simp only[bL,Option.some.injEq]at h;subst h;exact hs.1
  |succ b=>
   have:=TV d (c+1) hs.2 b o (by simpa using h)
   rwa [show c+1+b=c+(b+1)by omega]at this
def AllC(ops:List Oper)(f:Nat->Value)(w:World):Nat->List PE->Prop
 |_,[]=>True
 |k,p::l=>(tQ ops k f->p.p (f k) w)/\AllC ops f w (k+1) l
theorem LR{ops:List Oper}{e:Nat->Value}{w:World}:∀(f:List PE) (b:Nat),(∀(c:Nat) (d:PE),f[c]? =some d->tQ ops (b+c) e->d.p (e (b+c)) w)->AllC ops e w b f
 | [],_,_=>trivial
 |d::l,b,h=>⟨h 0 d rfl,LR l (b+1) λc g i=>by
  have:=h (c+1) g (by simpa using i)
  rwa [show b+1+c=b+(c+1)by omega]⟩
def gdOk(l:List Oper):Bool:=l.all λo=>match o.guard with
 |none=>true
 |some (j,_)=>o.after.toList.any λe=>Region.binds .any e&&e.on==j
def DC(l:List Oper)(L:List PE)(listed:Nat->Bool)(f:Nat->Value)(w:World):Prop:=
 (∀k o,l[k]? =some o->listed k=true->∀e∈o.after,Region.binds .any e=true->listed e.on=true)/\∀k,k<l.length->listed k=true->tQ l k f->(L.getD k kV).p (f k) w
theorem ah1{w:World}{p:List PE}
  (T:Z7 y X V w M p M 0) (U:∀j,mJ M.toArray C j=X j) (Y:gdOk M=true) (I:oQ M.toArray C.size=true):
  FH y M.toArray C V w Ext (λ_ _ _=>True) (λ_=>Ext) (λ_ _ _=>True) (DC M p):=by
 intro d o A l j B Z a0 x a1 _ _ _;simp only[oQ,aU]at I;have a2:=sQ M.toArray.toList 0 I.1.2;have t:M[d]? =some o:=by simpa using A
 have D:∀b∈o.after,Region.binds .any b=true->b.on<d:=λb k m=>by
  have:=a2 d o (by simpa using A) b k m;omega
 have J:∀b∈o.after,Region.binds .any b=true->l b.on=true:=λb k m=>by
  have h1:=D b k m;exact a0 b.on (.edge A k m .self) om
 have q:=TV M 0 T d o t l j B a1 (TI _ λb k m e=>by
  have K:=bU.1 k;have h1:=D b K m;have a7:d<M.length:=(aH.1 t).1;exact x.2 b.on om (J b K m) e) trivial
 rw[aY]at q;rw[U];have fin:∀v u,Ext B u->(vZ o j->(p.getD d kV).p v u)->True/\DC M p (λh=>if h=d then true else l h) (λh=>if h=d then v else j h) u:=by
  intro v u k a3;have L:∀c f,M[c]? =some f->(c=d∨l c=true)->vZ f (λh=>if h=d then v else j h)->vZ f j:=by
   intro c f g i e;unfold vZ at e ⊢
   cases N:f.guard with
   |none=>trivial
   |some E=>
    obtain⟨h,a4⟩:=E;rw[N]at e;have O:=cA.1 Y f (aM g);rw[N]at O;obtain⟨b,z,n⟩:=fM.1 O;simp only[aU,beq_iff_eq]at n;have P:=bU.1 z;have a5:h≠d:=by
     rcases i with rfl |i
     .rw[t]at g
      cases g
      have:=D b P n.1;omega
     .rintro rfl;have:=x.1 c f g i b P n.1;rw[n.2,Z]at this
      cases this
    simpa[a5]using e
  refine⟨trivial,λc f g i b z n=> ?_,λc i g e=> ?_⟩
  .show(if b.on=d then true else l b.on)=true;have i:(if c=d then true else l c)=true:=i;by_cases R:b.on=d
   .rw[if_pos R]
   .rw[if_neg R];by_cases r:c=d
    .subst r;rw[t]at g
     cases g
     exact J b z n
    .rw[if_neg r]at i;exact x.1 c f g i b z n
  .show(p.getD c kV).p (if c=d then v else j c) u;have g:(if c=d then true else l c)=true:=g;obtain⟨f,s⟩:∃f,M[c]? =some f:=⟨_,aA i⟩;unfold tQ at e;rw[s]at e;by_cases r:c=d
   .subst r;have F:=L c f s (.inl rfl) e;rw[t]at s
    cases s
    simp only[if_true];exact a3 F
   .rw[if_neg r]at g;have F:=L c f s (.inr g) e;simp only[r,if_false];refine(p.getD c kV).m _ _ _ k (x.2 c i g ?_);unfold tQ;rw[s];exact F
 unfold kM;unfold vZ at q fin
 cases S:o.guard with
 |none=>
  rw[S]at q fin;have h1:=q trivial;exact iS5
 |some E=>
  obtain⟨h,a4⟩:=E;rw[S]at q fin;refine⟨λe=> ?_,λa6=>fin undef B rE λe=>absurd e a6⟩;have h1:=q e;exact iS5
theorem NG{id:Nat}{d:Bool}{Q:Exit->Act->World->Prop}{w:World}(m:List PE)
  (I:Z7 y X V w M m M 0)
  (x:∀e f,Ext w f->AllC M e f 0 m->Q .normal ⟨X e,V⟩ f)
  (v:∀e,mJ M.toArray C e=X e) (J:y.follows .mixedOrders=true)
  (a5:m.length=M.length)
  (n:(oQ M.toArray C.size&&gdOk M)=true):
  (Code.region id M.toArray d).wp y Q ⟨C,V⟩ w:=by
 rw[aU]at n;have z:=ah1 I v n.2 n.1;have a6:M.toArray.size=M.length:=sm
 cases d with
 |true=>
  refine nN J n.1 (λe=>⟨λb o _ g=>(by cases g),λb _ g=>(by cases g)⟩) (Ext.refl w).drew (λ_=>trivial) (λ_ _ _ g b=>g.trans b) (λ_ _ _ _ _ _ _=>trivial) (λ_ _ _ _ _ _ _ _ _=>trivial) z (λe f K _ ⟨_,A,r⟩=> ?_);rw[v];refine x e f K (LR m 0 λi L s k=> ?_);have N:=(aH.1 s).1;rw[aY]at k ⊢;have:=r.2 i om (A i om) k;rw[aO,s]at this;exact this
 |false=>
  refine wp_region ?_;have B:=n.1;simp only[oQ,aU]at B;have O:=sQ M.toArray.toList 0 B.1.2;have D:∀{c j},M.toArray[c]? =some j->∀h∈j.after,Region.binds .any h=true->h.on<c:=λ{c j} p h l t=>by
   have:=O c j (by simpa using p) h l t;omega
  have P:∀(q b:Nat),b+q=M.toArray.size->∀a f e,BE M.toArray C V w Ext (λ_ _ _=>True) (λ_ _ _=>True) (DC M m) (λc=>decide (c<b)) a f e->wpOps y M.toArray Q (List.range' b q) a f:=by
   intro q
   induction q with
   |zero=>
    intro b R a f e u;have S:=u.act;subst S;show Q .normal _ f;rw[v];refine x e f u.grown (LR m 0 λi L s k=> ?_);have N:=(aH.1 s).1;rw[aY]at k ⊢;have:=u.joint.2 i om (by simp;omega) k;rw[aO,s]at this;exact this
   |succ q T=>
    intro b R a f e u;rw[List.range'_succ];have U:b<M.toArray.size:=om;obtain⟨o,E⟩:∃o,M.toArray[b]? =some o:=⟨_,cV U⟩;have k:∀c j,M.toArray[c]? =some j->decide (c<b)=true->∀h∈j.after,Region.binds .any h=true->decide (h.on<b)=true:=λc j p Y h l t=>by
     have A:=D p h l t;have r:c<b:=of_decide_eq_true Y;exact decide_eq_true om
    have Z:=BE.step (P:=y) (Q:=Q) (K:=wpOps y M.toArray Q (List.range' (b+1) q)) n.1 (λ_ _ _ g b=>g.trans b) (λ_ _ _ _ _ _ _=>trivial) (λ_ _ _ _ _ _ _ _ _=>trivial) z u E (decide_eq_false om) (λh l t=>decide_eq_true (D E h l t)) k (λa0 a1 a2 F=>by
     refine T (b+1) om a0 a1 a2 ?_
     have l:(λc=>if c=b then true else decide (c<b))=λc=>decide (c<b+1):=by
      funext c
      by_cases p:c=b
      .rw[if_pos p];simp;omega
      .rw[if_neg p]
       by_cases r:c<b
       .rw[decide_eq_true r,decide_eq_true om]
       .rw[decide_eq_false r,decide_eq_false om]
     rw[l]at F;exact F)
    rw[wpOps_cons];exact Z
  rw[List.range_eq_range'];refine P _ 0 om _ _ (λi=>C.getD (((M.toArray[i]?).bind (·.dst)).getD 0) undef) ⟨?_,rE,λ_ _=>trivial,λi hi a3=>by simp at a3,?_,⟨λb o _ g=>by simp at g,λb _ g=>by simp at g⟩⟩
  .congr 1;refine(DP C _ M.toArray.toList 0 C rfl λi o d hi hd=> ?_).symm;have a4:M.toArray[i]? =some o:=by simpa using hi
   simp only[aY,a4,Option.bind_some,hd,Option.getD_some]
  .exact nT3
def IsB(v:Value):Prop:=∃b:Bool,v=b
def kQ:PE:=nL (λu _=>IsB u) λu a b he h=>h
theorem zY{b:Bool}:IsB b=True:=eq_true ⟨b,rfl⟩
def IsI(v:Value):Prop:=∃z:Int,v=z
def tB:PE:=nL (λu _=>IsI u) λu a b he h=>h
theorem vH{w:World}:tB.p r w=IsI r:=rfl
theorem vF{w:World}:kQ.p r w=IsB r:=rfl
theorem oR{G:Prop}(h:G:=by
  intro S f w1 hI hp hl hS;simp[J7,tQ,vZ,mY,mX,vF,vH,Region.binds]at hp hS;try simp[hS,zY]at hp
  first
   | (simp only[kM];go_simp;exact⟨_,rfl,rE,rfl⟩)
   | (have hc:=HC.out _ hI;simp only[kM];go_simp;exact⟨_,rfl,rE,rfl⟩)):G:=h
theorem oRb{G:Prop}(h:G:=by
  intro S f w1 hI hp hl hS;simp[J7,tQ,vZ,mY,mX,vF,vH,Region.binds]at hp hS;try simp[hS,zY]at hp
  first
   | (simp only[kM];go_simp;exact⟨_,rfl,rE,_,rfl⟩)
   | (have hc:=HC.out _ hI;simp only[kM];go_simp;exact⟨_,rfl,rE,_,rfl⟩)):G:=h
theorem oRm{G:Prop}(h:G:=by
  intro S f w1 hI hp hl hS;simp[J7,tQ,vZ,mY,mX,vF,vH,Region.binds]at hp hS;try simp[hS,zY]at hp
  first
   | (obtain⟨b,q⟩:=hp;simp only[kM];go_simp;exact⟨_,rfl,rE,_,rfl⟩)
   | (obtain⟨⟨b,q⟩, -⟩:=hp;simp only[kM];go_simp;exact⟨_,rfl,rE,_,rfl⟩)
   | (obtain⟨-,b,q⟩:=hp;simp only[kM];go_simp;exact⟨_,rfl,rE,_,rfl⟩)):G:=h
theorem oRp{G:Prop}(h:G:=by
  intro S f w1 hI hp hl hS;simp[J7,tQ,vZ,mY,mX,vF,vH,Region.binds]at hp hS;try simp[hS,zY]at hp
  obtain⟨⟨b,q⟩,hp⟩:=hp
  cases b<;>simp [q]at hp<;>first
   | (simp only[kM];go_simp;exact⟨_,rfl,rE,_,rfl⟩)
   | (obtain⟨b',q'⟩:=hp;simp only[kM];go_simp;exact⟨_,rfl,rE,_,rfl⟩)):G:=h
theorem oRi{G:Prop}(h:G:=by
  intro S f w1 hI hp hl hS;simp[J7,tQ,vZ,mY,mX,vF,vH,Region.binds]at hp hS;try simp[hS,zY]at hp
  obtain⟨⟨b,q⟩,hp⟩:=hp;simp only[kM];go_simp;exact⟨_,rfl,rE,_,rfl⟩):G:=h
theorem oRx{G:Prop}(h:G:=by
  intro S f w1 hI hp hl hS;simp[J7,tQ,vZ,mY,mX,vF,vH,Region.binds]at hp hS;simp[hS]at hp):G:=h
def Z5(w:World)(e:Ending)(w':World):Prop:=∃b:Bool,e= .returned b/\Ext w w'
theorem ZS(b:ByteArray)(c:Nat)(e:c<b.size):∃d:Nat,d<256/\∀w:World,(Instr.index 9 b c).run prog w= .ok (.int .u8 (d:Int)) w:=by
 refine⟨(b[c]).toNat,(b[c]).toNat_lt,λw=> ?_⟩;rw[run_index_string w 9 b .i64 _ underlying9,dif_pos ⟨om,om⟩];rfl
theorem wQ(b:ByteArray)(w:World)(j:b.size<=9223372036854775807):Calls prog 29 #[b] w λk l=>Z5 w k l:=by
 obtain⟨f,g⟩:=ex b.size;have c:=a8 g;rw[<-g]at j;go_enter func29,ntmps29;go_wp2_with fail;go_loopw [3] (λd wr=>∃i:Nat,i<=f/\d= .int .i64 (i:Int)/\Ext w wr) (λd _=>((f:Int) - intOf d).toNat)
 case atStart=>exact ⟨0,zl,rfl,rE⟩
 case round=>
  obtain⟨i,m,rfl,hE⟩:=hrel;rcases aI m with e |e
  .subst e;have n:¬((i:Int)<b.size):=by rw[<-c.out];omega
   by_cases q:(0:Int)<(b.size:Int)
   .by_cases p:(b.size:Int)<33
    .exact eV9
    .exact eV9
   .exact eV9
  .have n:(i:Int)<b.size:=by rw[<-c.out];omega
   obtain⟨h,_,_⟩:=ZS b i (by rw[<-c.out];exact e);by_cases p:(h:Int)<33
   .exact eV9
   .by_cases r:126<(h:Int)
    .exact eV9
    .exact Mz5
theorem S4(j k s:ByteArray)(c:Option Addr)(b d:Nat)(l:Option Addr)(m n:Nat)(e:List RwE)(w:World)(f:LO w (c,b,d) e)(v:e.length<=1000000):
  Calls prog 30 #[.agg #[j,k,(c,b,d),(l,m,n)],s] w λx y=>∃z:Int,x= .returned z/\Ext w y:=by
 obtain⟨_,_,_,g,A,_,p⟩:=f.at
 cases A
 have B:=a8 p;have C:=a8 g;rw[<-g]at v;obtain⟨D,q,t,u,E⟩:=kR w #[j,k,(c,b,d),(l,m,n)] 25;have F:=a8 u;have HE1:=a8 t;clear f p g t u E;go_enter func30,ntmps30;go_wp2_with fail;rw[<-q];clear q;go_loopw [5] (λh wr=>∃i:Nat,i<=b/\h= .int .i64 (i:Int)/\Ext D wr) (λh _=>((b:Int) - intOf h).toNat)
 case atStart=>exact ⟨0,zl,rfl,rE⟩
 case round=>
  obtain⟨i,I,rfl,hE⟩:=hrel;have:=(F.out.ext hE).cell 2;rcases aI I with hin |hin
  .exact Rw7
  .have hlt:(i:Int)<b:=om;obtain⟨r,hr⟩:∃r,e[i]? =some r:=⟨_,aA (by rw[<-C.out];exact hin)⟩;obtain⟨_,_,rfl,_,f,_,_,_,hcell, -⟩:=B.out i r hr;exact Xy6
theorem S2(j k s:ByteArray)(l:Option Addr)(m n:Nat)(c:Option Addr)(b d:Nat)(e:List VrE)(w:World)(f:FW w (c,b,d) e)(v:e.length<=1000000):
  Calls prog 37 #[.agg #[j,k,(l,m,n),(c,b,d)],s] w λx y=>∃z:Int,x= .returned z/\Ext w y:=by
 obtain⟨_,_,_,g,A,_,p⟩:=f.at
 cases A
 have B:=a8 p;have C:=a8 g;rw[<-g]at v;obtain⟨D,q,t,u,E⟩:=kR w #[j,k,(l,m,n),(c,b,d)] 25;have F:=a8 u;have HE1:=a8 t;clear f p g t u E;go_enter func37,ntmps37;go_wp2_with fail;rw[<-q];clear q;go_loopw [5] (λh wr=>∃i:Nat,i<=b/\h= .int .i64 (i:Int)/\Ext D wr) (λh _=>((b:Int) - intOf h).toNat)
 case atStart=>exact ⟨0,zl,rfl,rE⟩
 case round=>
  obtain⟨i,I,rfl,hE⟩:=hrel;have:=(F.out.ext hE).cell 3;rcases aI I with hin |hin
  .exact Rw7
  .have hlt:(i:Int)<b:=om;obtain⟨r,hr⟩:∃r,e[i]? =some r:=⟨_,aA (by rw[<-C.out];exact hin)⟩;obtain⟨_,_,rfl,_,f,_,hcell, -⟩:=B.out i r hr;exact Xy6
theorem U7{w:World}(c:o9 w r K):∃b:QC,r= .agg #[b.b,(b.a1,b.n1,b.c1),(b.a2,b.n2,b.c2)]:=by
 obtain⟨⟨_,_,rfl,d,e⟩, -⟩:=c;obtain⟨f,g,rfl, -⟩:=d;obtain⟨h,i,rfl, -⟩:=e;exact⟨⟨K.1,f,_,g,h,_,i⟩,rfl⟩
theorem MF{w:World}(b:IsR w r u c):szD u<=5*c:=by
 have d:=b.sz;have:=AP u.num.natAbs;have:=AP u.den;unfold szQ szZ at d;unfold Go.Proofs.YtjlcilmjfejimaaGreat.szD szT;omega
theorem RZ(n:Int)(w:World)(h0: -9223372036854775808<=n)(h1:n<=9223372036854775807):
  Calls prog 75 #[n] w λe b=>∃c,e= .returned c/\FrQ w b c (n:Rat)/\Ext w b:=by
 have:=UN n;have:=EA (z:=n) om;go_enter func75,ntmps75;exact Nv7
theorem wT(k:Value)(e:RE)(w:World)(g:o9 w k e):Calls prog 32 #[k] w λe w'=>Z5 w e w':=by
 obtain⟨c,rfl⟩:=U7 g;obtain⟨h,l,i,f,r⟩:=kR w #[c.b,(c.a1,c.n1,c.c1),(c.a2,c.n2,c.c2)] 37;have HV:=a8 (aD (g.ext i) i);have HC:Hid (∀wz,Ext h wz->wz.cell? w.heap.size=some (.bool c.b)/\wz.cell? (w,1)=some (.slice c.a1 c.n1 c.c1)/\wz.cell? (w,2)=some (.slice c.a2 c.n2 c.c2)):=a8 λwz j=>⟨(f.ext j).cell 0,(f.ext j).cell 1,(f.ext j).cell 2⟩
 clear g f i r;go_enter func32,ntmps32;go_wp2_with fail;rw[<-l];clear l;apply JY [kN (.agg #[c.b,(c.a1,c.n1,c.c1),(c.a2,c.n2,c.c2)]),nL (λm wz=>FrQ h wz m ((0:Int):Rat)) (λm a b s t=>t.ext s),kQ,kQ] ?st ?en hF kr rfl kr
 case st=>
  refine⟨oX,?_,?_,?_,trivial⟩
  .intro n d wz hI hp p q;refine oC (P:=prog) #[(0:Int)] func75 rfl rfl ?_;refine(RZ 0 wz om om).mono ?_;exact rf0
  .intro n d wz hI hp p q;have q0:d 0= .agg #[c.b,(c.a1,c.n1,c.c1),(c.a2,c.n2,c.c2)]:=hp.1 rfl;have q1:FrQ h wz (d 1) ((0:Int):Rat):=hp.2.1 rfl;refine oC (P:=prog) #[d 0,d 1] func24 rfl rfl ?_;exact Bd0
  .intro n d wz hI hp p q;obtain⟨b,_⟩:∃b:Bool,d 2=b:=hp.1 rfl;exact vu0
 case en=>
  intro d _ hI hp;obtain⟨b,u⟩:∃b:Bool,d 3=b:=hp.2.2.2.1 rfl;have v:=a8 (HV.out.2.trans hI);clear hp;simp only[u];go_wp2;go_ret;exact⟨_,rfl,v.out⟩
theorem uF(r:Value)(e:RE)(w:World)(i:o9 w r e)(f:mH e<=6):Calls prog 31 #[r] w λe w'=>Z5 w e w':=by
 have s:=i.is6 f;obtain⟨c,rfl⟩:=U7 i;obtain⟨g,t,j,k,v⟩:=kR w #[c.b,(c.a1,c.n1,c.c1),(c.a2,c.n2,c.c2)] 37;have HV:=a8 (aD (i.ext j) (aD (s.ext j) j));have HC:Hid (∀wz,Ext g wz->wz.cell? w.heap.size=some (.bool c.b)/\wz.cell? (w,1)=some (.slice c.a1 c.n1 c.c1)/\wz.cell? (w,2)=some (.slice c.a2 c.n2 c.c2)):=a8 λwz l=>⟨(k.ext l).cell 0,(k.ext l).cell 1,(k.ext l).cell 2⟩
 clear i k j v s;go_enter func31,ntmps31;go_wp2_with fail;rw[<-t];clear t;apply JY [kN (.agg #[c.b,(c.a1,c.n1,c.c1),(c.a2,c.n2,c.c2)]),kN (.agg #[c.b,(c.a1,c.n1,c.c1),(c.a2,c.n2,c.c2)]),nL (λh wz=>qO g wz h (pX e)) (λh a b f m=>m.ext f),nL (λh wz=>FrQ g wz h (pX e)) (λh a b f m=>m.ext f),kQ,kQ] ?st ?en hF kr rfl kr
 case st=>
  refine⟨oX,oX,?_,?_,?_,?_,trivial⟩
  .intro n d wz hI hp p q;have q1:d 1= .agg #[c.b,(c.a1,c.n1,c.c1),(c.a2,c.n2,c.c2)]:=hp.1 rfl;refine oC (P:=prog) #[d 1] func34 rfl rfl ?_;rw[q1];refine(wN _ (pX e) 6 wz (HV.out.2.1.ext hI) om).mono ?_;exact rf0
  .intro n d wz hI hp p q;have u:qO g wz (d 2) (pX e):=hp.1 rfl;refine oC (P:=prog) #[d 2] func19 rfl rfl ?_;have l:=MF HV.out.2.1;refine(uI _ (pX e) wz u.cq om).mono ?_;exact rf0
  .intro n d wz hI hp p q;have q0:d 0= .agg #[c.b,(c.a1,c.n1,c.c1),(c.a2,c.n2,c.c2)]:=hp.1 rfl;have q1:FrQ g wz (d 3) (pX e):=hp.2.1 rfl;refine oC (P:=prog) #[d 0,d 3] func24 rfl rfl ?_;exact Bd0
  .intro n d wz hI hp p q;obtain⟨b,u⟩:∃b:Bool,d 4=b:=hp.1 rfl;exact vu0
 case en=>
  intro d _ hI hp;obtain⟨b,x⟩:∃b:Bool,d 5=b:=hp.2.2.2.2.2.1 rfl;have y:=a8 (HV.out.2.2.trans hI);clear hp;simp only[x];go_wp2;go_ret;exact⟨_,rfl,y.out⟩
def lR(l:List TE):List (Int×Rat):=l.map λe=>(e.1,pX e.2)
theorem P9(F:Value)(L:PbE)(w:World)(h0:PbH w F L)(h3:RQ L)(b3:L.1.1.size<=9223372036854775807)(b4:L.1.2.size<=9223372036854775807)(b5:∀r∈L.2.1,r.1.size<=9223372036854775807)(b6:∀r∈L.2.2,r.1.size<=9223372036854775807):
  Calls prog 6 #[F] w λe w'=>Z5 w e w':=by
 obtain⟨⟨s,n⟩,h4,h5⟩:=L;obtain⟨M,B,z,C,m,x,rfl,b7,b8⟩:=h0;have h6:=b7.at;have h7:=b8.at;obtain⟨_,_,_,a5,h8,I,b9⟩:=h6
 cases h8
 obtain⟨_,_,_,a6,h9,_,bA⟩:=h7
 cases h9
 obtain⟨e7,e8,bB,bC⟩:=h3;simp only at a5 a6 b9 bA e7 e8 bB bC b3 b4 b5 b6;obtain⟨bD,e9,eA,Z,hA⟩:=kR w #[s,n,(M,B,z),(C,m,x)] 25;have HC:Hid (∀wz,Ext bD wz->wz.cell? w.heap.size=some (.string s)/\wz.cell? (w,1)=some (.string n)/\wz.cell? (w,2)=some (.slice M B z)/\wz.cell? (w,3)=some (.slice C m x)):=a8 λwz g=>⟨(Z.ext g).cell 0,(Z.ext g).cell 1,(Z.ext g).cell 2,(Z.ext g).cell 3⟩
 have N:=a8 (aD a5 a6);have eB:=a8 (aD b9 bA);have bE:=a8 (aD b7 b8);have eC:=a8 (aD bB bC);have a7:=a8 (aD b3 (aD b4 (aD b5 b6)));have HE1:=a8 eA;rw[<-a5]at e7;rw[<-a6]at e8;clear a5 a6 b9 bA b7 b8 bB bC b3 b4 b5 b6 eA Z hA;go_enter func6,ntmps6;go_upto_region 1 with(fail);rw[<-e9];clear e9;apply NG [kN _,kN s,kQ,kQ,kN _,kN s,kQ,kQ,kQ,kQ,kN _,kN n,kQ,kQ,kQ,kQ,kN _,kN n,kQ,kQ,kQ,kN _,kN _,kN _,kQ,kQ,kQ,kN _,kN _,kN _,kQ,kQ] ?st ?en hF kr rfl kr
 case st=>
  refine⟨oR,oR,oRb,oRm,oR,oR,?_,oRm,oRp,oRm,oR,oR,?_,oRm,oRp,oRm,oR,oR,oRb,oRp,oRm,oR,oR,oR,oRb,oRp,oRm,oR,oR,oR,oRb,oRp,trivial⟩
  .intro S f wz hI hp hl hS;have q:f 5=s:=hp.1 rfl hS;refine oC (P:=prog) #[f 5] func29 rfl rfl ?_;rw[q];exact(wQ s wz a7.out.1).mono λe w' ⟨b,h1,h2⟩=>⟨_,h1,h2,b,rfl⟩
  .intro S f wz hI hp hl hS;have q:f 11=n:=hp.1 rfl hS;refine oC (P:=prog) #[f 11] func29 rfl rfl ?_;rw[q];exact(wQ n wz a7.out.2.1).mono λe w' ⟨b,h1,h2⟩=>⟨_,h1,h2,b,rfl⟩
 case en=>
  intro f _ hI hp;obtain⟨b,a0⟩:IsB (f 31):=hp.2.2.2.2.2.2.2.2.2.2.2.2.2.2.2.2.2.2.2.2.2.2.2.2.2.2.2.2.2.2.2.1 trivial;have bG:=a8 (hI);simp only[a0];clear hp hI a0
  cases b
  case true=>
   go_wp2;go_ret;exact⟨_,rfl,HE1.out.trans bG.out⟩
  case false=>
   go_wp2_with fail
   go_loopw [3] (λF wr=>∃i:Nat,i<=B/\F= .int .i64 (i:Int)/\Ext bD wr) (λF _=>((B:Int) - intOf F).toNat)
   case atStart=>exact ⟨0,zl,rfl,bG.out⟩
   case round=>
    obtain⟨i,hB,rfl,D⟩:=hrel;clear bG;have eD:=(HC.out _ D).2.2.1;rcases aI hB with bO |bO
    .subst bO;have bP:¬((i:Int)<i):=om;have eE:=a8 D;clear D;go_wp2_with fail;clear eD;obtain⟨a9,bR⟩:=ex i;rw[<-bR];rw[<-bR]at HC N bE;clear bR;go_loopw [5] (λF wr=>∃i:Nat,i<=m/\F= .int .i64 (i:Int)/\Ext bD wr) (λF _=>((m:Int) - intOf F).toNat)
     case atStart=>exact ⟨0,zl,rfl,eE.out⟩
     case round=>
      obtain⟨i,hC,rfl,D⟩:=hrel;clear eE;have hD:=(HC.out _ D).2.2.2;rcases aI hC with bS |bS
      .subst bS;have bP:¬((i:Int)<i):=om;go_wp2;go_ret;exact⟨_,rfl,HE1.out.trans D⟩
      .have bP:(i:Int)<m:=om;obtain⟨r,O⟩:∃r,h5[i]? =some r:=⟨_,aA (by rw[<-N.out.2];exact bS)⟩;have I:=aM O;have bT:∃h j,C=some ⟨h,j,none⟩/\∃(d c k:QC),(wr.cell? ⟨h,j+i*13,none⟩=some (.string r.1)/\wr.cell? ⟨h,j+i*13+1,none⟩=some (.bool r.2.1.1)/\wr.cell? ⟨h,j+i*13+2,none⟩=some (.bool r.2.1.2.1)/\wr.cell? ⟨h,j+i*13+3,none⟩=some (.bool r.2.1.2.2)/\wr.cell? ⟨h,j+i*13+4,none⟩=some (.bool d.b)/\wr.cell? ⟨h,j+i*13+5,none⟩=some (.slice d.a1 d.n1 d.c1)/\wr.cell? ⟨h,j+i*13+6,none⟩=some (.slice d.a2 d.n2 d.c2)/\wr.cell? ⟨h,j+i*13+7,none⟩=some (.bool c.b)/\wr.cell? ⟨h,j+i*13+8,none⟩=some (.slice c.a1 c.n1 c.c1)/\wr.cell? ⟨h,j+i*13+9,none⟩=some (.slice c.a2 c.n2 c.c2)/\wr.cell? ⟨h,j+i*13+10,none⟩=some (.bool k.b)/\wr.cell? ⟨h,j+i*13+11,none⟩=some (.slice k.a1 k.n1 k.c1)/\wr.cell? ⟨h,j+i*13+12,none⟩=some (.slice k.a2 k.n2 k.c2))/\o9 wr (.agg #[d.b,(d.a1,d.n1,d.c1),(d.a2,d.n2,d.c2)]) r.2.2.1/\o9 wr (.agg #[c.b,(c.a1,c.n1,c.c1),(c.a2,c.n2,c.c2)]) r.2.2.2.1/\o9 wr (.agg #[k.b,(k.a1,k.n1,k.c1),(k.a2,k.n2,k.c2)]) r.2.2.2.2:=by
        obtain⟨h,j,h1,d,c,k,h2,c0,c1,c2⟩:=eB.out.2 i r O;have A:=HE1.out.trans D;exact⟨h,j,h1,d,c,k,h2 wr A,c0.ext A,c1.ext A,c2.ext A⟩
       obtain⟨h,j,rfl,d,c,k,⟨c3,c4,c5,c6,c7,c8,c9,e0,e1,e2,hE,hG,hH⟩,a1,a2,eG⟩:=bT;have HOKr:=a8 (aD (eC.out.2 r I) (a7.out.2.2.2 r I));obtain⟨b0,a3,E,l,e3⟩:=kR wr #[r.1,r.2.1.1,r.2.1.2.1,r.2.1.2.2,d.b,(d.a1,d.n1,d.c1),(d.a2,d.n2,d.c2),c.b,(c.a1,c.n1,c.c1),(c.a2,c.n2,c.c2),k.b,(k.a1,k.n1,k.c1),(k.a2,k.n2,k.c2)] 86;have u:=a8 (aD (a1.ext E) (aD (a2.ext E) (eG.ext E)));have R:=a8 (D.trans E);have e4:=HC;clear HC;have HC:Hid (∀wz,Ext b0 wz->(wz.cell? w.heap.size=some (.string s)/\wz.cell? (w,1)=some (.string n)/\wz.cell? (w,2)=some (.slice M a9 z)/\wz.cell? (w,3)=some (.slice (h,j) m x))/\wz.cell? wr.heap.size=some (.string r.1)/\wz.cell? (wr,1)=some (.bool r.2.1.1)/\wz.cell? (wr,2)=some (.bool r.2.1.2.1)/\wz.cell? (wr,3)=some (.bool r.2.1.2.2)/\wz.cell? (wr,4)=some (.bool d.b)/\wz.cell? (wr,5)=some (.slice d.a1 d.n1 d.c1)/\wz.cell? (wr,6)=some (.slice d.a2 d.n2 d.c2)/\wz.cell? (wr,7)=some (.bool c.b)/\wz.cell? (wr,8)=some (.slice c.a1 c.n1 c.c1)/\wz.cell? (wr,9)=some (.slice c.a2 c.n2 c.c2)/\wz.cell? (wr,10)=some (.bool k.b)/\wz.cell? (wr,11)=some (.slice k.a1 k.n1 k.c1)/\wz.cell? (wr,12)=some (.slice k.a2 k.n2 k.c2)):=a8 λwz g=>⟨e4.out wz (R.out.trans g),(l.ext g).cell 0,(l.ext g).cell 1,(l.ext g).cell 2,(l.ext g).cell 3,(l.ext g).cell 4,(l.ext g).cell 5,(l.ext g).cell 6,(l.ext g).cell 7,(l.ext g).cell 8,(l.ext g).cell 9,(l.ext g).cell 10,(l.ext g).cell 11,(l.ext g).cell 12⟩
       clear O I a1 a2 eG E l e3 D;go_upto_region 21 with(fail);rw[<-a3];clear a3 c3 c4 c5 c6 c7 c8 c9 e0 e1 e2 hE hG hH hD;apply NG [kN _,kN r.1,kQ,kQ,kQ,kN (.agg #[s,n,(M,a9,z),(h,j,m,x)]),kN _,kN r.1,tB,kN i,kQ,kQ,kQ,kN _,kN (.agg #[d.b,(d.a1,d.n1,d.c1),(d.a2,d.n2,d.c2)]),kQ,kQ,kQ,kQ,kN _,kN (.agg #[c.b,(c.a1,c.n1,c.c1),(c.a2,c.n2,c.c2)]),kQ,kQ,kQ,kQ,kN _,kN (.agg #[k.b,(k.a1,k.n1,k.c1),(k.a2,k.n2,k.c2)]),kQ,kQ,kQ,kQ,kN _,kQ,kQ,kQ,kN _,kN (.agg #[d.b,(d.a1,d.n1,d.c1),(d.a2,d.n2,d.c2)]),kQ,kQ,kQ,kQ,kQ,kN _,kQ,kQ,kQ,kN _,kN (.agg #[c.b,(c.a1,c.n1,c.c1),(c.a2,c.n2,c.c2)]),kQ,kQ,kQ,kQ] ?st ?en hF kr rfl kr
       case st=>
        refine⟨oR,oR,?_,oRm,oRm,oR,oR,oR,?_,oR,oRi,oRp,oRm,oR,oR,?_,oRm,oRp,oRm,oR,oR,?_,oRm,oRp,oRm,oR,oR,?_,oRm,oRp,oRm,oR,oRb,oRm,oRm,oR,oR,?_,oRm,oRp,oRp,oRm,oR,oRb,oRm,oRm,oR,oR,?_,oRm,oRp,oRp,trivial⟩
        .exact BK6
        .intro S f wz hI hp hl hS;have q:f 5= .agg #[s,n,(M,a9,z),(h,j,m,x)]:=hp.1 rfl hS;have T:f 7=r.1:=hp.2.1 rfl hS;refine oC (P:=prog) #[f 5,f 7] func37 rfl rfl ?_;rw[q,T];exact(S2 s n _ M a9 z (h,j) m x _ wz (bE.out.2.ext (HE1.out.trans (R.out.trans hI))) (by first | (rw[<-N.out.1];omega) | (rw[<-N.out.2];omega))).mono λe w' ⟨b,h1,h2⟩=>⟨_,h1,h2,b,rfl⟩
        .intro S f wz hI hp hl hS;have q:f 14= .agg #[d.b,(d.a1,d.n1,d.c1),(d.a2,d.n2,d.c2)]:=hp.1 rfl hS;refine oC (P:=prog) #[f 14] func31 rfl rfl ?_;rw[q];exact(uF _ _ wz (u.out.1.ext hI) (HOKr.out.1.1)).mono λe w' ⟨b,h1,h2⟩=>⟨_,h1,h2,b,rfl⟩
        .intro S f wz hI hp hl hS;have q:f 20= .agg #[c.b,(c.a1,c.n1,c.c1),(c.a2,c.n2,c.c2)]:=hp.1 rfl hS;refine oC (P:=prog) #[f 20] func31 rfl rfl ?_;rw[q];exact(uF _ _ wz (u.out.2.1.ext hI) (HOKr.out.1.2.1)).mono λe w' ⟨b,h1,h2⟩=>⟨_,h1,h2,b,rfl⟩
        .intro S f wz hI hp hl hS;have q:f 26= .agg #[k.b,(k.a1,k.n1,k.c1),(k.a2,k.n2,k.c2)]:=hp.1 rfl hS;refine oC (P:=prog) #[f 26] func31 rfl rfl ?_;rw[q];exact(uF _ _ wz (u.out.2.2.ext hI) (HOKr.out.1.2.2)).mono λe w' ⟨b,h1,h2⟩=>⟨_,h1,h2,b,rfl⟩
        .intro S f wz hI hp hl hS;have q:f 36= .agg #[d.b,(d.a1,d.n1,d.c1),(d.a2,d.n2,d.c2)]:=hp.1 rfl hS;refine oC (P:=prog) #[f 36] func32 rfl rfl ?_;rw[q];exact(wT _ _ wz (u.out.1.ext hI)).mono λe w' ⟨b,h1,h2⟩=>⟨_,h1,h2,b,rfl⟩
        .intro S f wz hI hp hl hS;have q:f 47= .agg #[c.b,(c.a1,c.n1,c.c1),(c.a2,c.n2,c.c2)]:=hp.1 rfl hS;refine oC (P:=prog) #[f 47] func32 rfl rfl ?_;rw[q];exact(wT _ _ wz (u.out.2.1.ext hI)).mono λe w' ⟨b,h1,h2⟩=>⟨_,h1,h2,b,rfl⟩
       case en=>
        intro f eN hI hp;obtain⟨b,fA⟩:IsB (f 51):=hp.2.2.2.2.2.2.2.2.2.2.2.2.2.2.2.2.2.2.2.2.2.2.2.2.2.2.2.2.2.2.2.2.2.2.2.2.2.2.2.2.2.2.2.2.2.2.2.2.2.2.2.1 trivial;have a4:=a8 (R.out.trans hI);simp only[fA];clear hp hI fA
        cases b
        case true=>
         go_wp2;go_ret;exact⟨_,rfl,HE1.out.trans a4.out⟩
        case false=>
         go_wp2;go_roundw
         case rel=>exact ⟨i+1,om,ci om,a4.out⟩
         case measure=>simp [intOf];omega
    .have bP:(i:Int)<B:=om;obtain⟨r,O⟩:∃r,h4[i]? =some r:=⟨_,aA (by rw[<-N.out.1];exact bO)⟩;have I:=aM O;have bT:∃h j,M=some ⟨h,j,none⟩/\∃(d c:QC) (y:Option Addr) (t p:Nat),(wr.cell? ⟨h,j+i*10,none⟩=some (.string r.1)/\wr.cell? ⟨h,j+i*10+1,none⟩=some (.bool r.2.1.1)/\wr.cell? ⟨h,j+i*10+2,none⟩=some (.bool r.2.1.2)/\wr.cell? ⟨h,j+i*10+3,none⟩=some (.bool d.b)/\wr.cell? ⟨h,j+i*10+4,none⟩=some (.slice d.a1 d.n1 d.c1)/\wr.cell? ⟨h,j+i*10+5,none⟩=some (.slice d.a2 d.n2 d.c2)/\wr.cell? ⟨h,j+i*10+6,none⟩=some (.bool c.b)/\wr.cell? ⟨h,j+i*10+7,none⟩=some (.slice c.a1 c.n1 c.c1)/\wr.cell? ⟨h,j+i*10+8,none⟩=some (.slice c.a2 c.n2 c.c2)/\wr.cell? ⟨h,j+i*10+9,none⟩=some (.slice y t p))/\o9 wr (.agg #[d.b,(d.a1,d.n1,d.c1),(d.a2,d.n2,d.c2)]) r.2.2.1.1/\o9 wr (.agg #[c.b,(c.a1,c.n1,c.c1),(c.a2,c.n2,c.c2)]) r.2.2.1.2/\TLE wr (y,t,p) r.2.2.2:=by
      obtain⟨h,j,h1,d,c,y,t,p,h2,c0,c1,c2⟩:=eB.out.1 i r O;have A:=HE1.out.trans D;exact⟨h,j,h1,d,c,y,t,p,h2 wr A,c0.ext A,c1.ext A,c2.ext A⟩
     obtain⟨h,j,rfl,d,c,y,t,p,⟨c3,c4,c5,c6,c7,c8,c9,e0,e1,e2⟩,a1,a2,fB⟩:=bT;have HOKr:=a8 (aD (eC.out.1 r I) (a7.out.2.2.1 r I));obtain⟨b0,a3,E,l,e3⟩:=kR wr #[r.1,r.2.1.1,r.2.1.2,d.b,(d.a1,d.n1,d.c1),(d.a2,d.n2,d.c2),c.b,(c.a1,c.n1,c.c1),(c.a2,c.n2,c.c2),(y,t,p)] 81;have u:=a8 (aD (a1.ext E) (aD (a2.ext E) (fB.ext E)));have R:=a8 (D.trans E);have e4:=HC;clear HC;have HC:Hid (∀wz,Ext b0 wz->(wz.cell? w.heap.size=some (.string s)/\wz.cell? (w,1)=some (.string n)/\wz.cell? (w,2)=some (.slice (h,j) B z)/\wz.cell? (w,3)=some (.slice C m x))/\wz.cell? wr.heap.size=some (.string r.1)/\wz.cell? (wr,1)=some (.bool r.2.1.1)/\wz.cell? (wr,2)=some (.bool r.2.1.2)/\wz.cell? (wr,3)=some (.bool d.b)/\wz.cell? (wr,4)=some (.slice d.a1 d.n1 d.c1)/\wz.cell? (wr,5)=some (.slice d.a2 d.n2 d.c2)/\wz.cell? (wr,6)=some (.bool c.b)/\wz.cell? (wr,7)=some (.slice c.a1 c.n1 c.c1)/\wz.cell? (wr,8)=some (.slice c.a2 c.n2 c.c2)/\wz.cell? (wr,9)=some (.slice y t p)):=a8 λwz g=>⟨e4.out wz (R.out.trans g),(l.ext g).cell 0,(l.ext g).cell 1,(l.ext g).cell 2,(l.ext g).cell 3,(l.ext g).cell 4,(l.ext g).cell 5,(l.ext g).cell 6,(l.ext g).cell 7,(l.ext g).cell 8,(l.ext g).cell 9⟩
     have b1:=HC;clear O I a1 a2 fB E l e3 D;go_upto_region 7 with(fail);rw[<-a3];clear a3 c3 c4 c5 c6 c7 c8 c9 e0 e1 e2 eD;apply NG [kN _,kN r.1,kQ,kQ,kQ,kN _,kN r.1,kQ,kQ,kQ,kN _,kN r.1,kN _,kN n,kQ,kQ,kQ,kN (.agg #[s,n,(h,j,B,z),(C,m,x)]),kN _,kN r.1,tB,kN i,kQ,kQ,kQ,kN _,kQ,kQ,kQ,kN _,kQ,kQ,kQ,kQ] ?st ?en hF kr rfl kr
     case st=>
      refine⟨oR,oR,?_,oRm,oRm,oR,oR,oRb,oRp,oRm,oR,oR,oR,oR,oRb,oRp,oRm,oR,oR,oR,?_,oR,oRi,oRp,oRm,oR,oRb,oRm,oRm,oR,oRb,oRm,oRp,oRp,trivial⟩
      .exact BK6
      .intro S f wz hI hp hl hS;have q:f 17= .agg #[s,n,(h,j,B,z),(C,m,x)]:=hp.1 rfl hS;have T:f 19=r.1:=hp.2.1 rfl hS;refine oC (P:=prog) #[f 17,f 19] func30 rfl rfl ?_;rw[q,T];exact(S4 s n _ (h,j) B z C m x _ wz (bE.out.1.ext (HE1.out.trans (R.out.trans hI))) (by first | (rw[<-N.out.1];omega) | (rw[<-N.out.2];omega))).mono λe w' ⟨b,h1,h2⟩=>⟨_,h1,h2,b,rfl⟩
     case en=>
      intro f eN hI hp;obtain⟨b,fC⟩:IsB (f 33):=hp.2.2.2.2.2.2.2.2.2.2.2.2.2.2.2.2.2.2.2.2.2.2.2.2.2.2.2.2.2.2.2.2.2.1 trivial;have a4:=a8 (R.out.trans hI);have U:=a8 hI;simp only[fC];clear hp hI fC
      cases b
      case true=>
       go_wp2;go_ret;exact⟨_,rfl,HE1.out.trans a4.out⟩
      case false=>
       clear HC;have HC:Hid (∀wz,Ext eN wz->(wz.cell? w.heap.size=some (.string s)/\wz.cell? (w,1)=some (.string n)/\wz.cell? (w,2)=some (.slice (h,j) B z)/\wz.cell? (w,3)=some (.slice C m x))/\wz.cell? wr.heap.size=some (.string r.1)/\wz.cell? (wr,1)=some (.bool r.2.1.1)/\wz.cell? (wr,2)=some (.bool r.2.1.2)/\wz.cell? (wr,3)=some (.bool d.b)/\wz.cell? (wr,4)=some (.slice d.a1 d.n1 d.c1)/\wz.cell? (wr,5)=some (.slice d.a2 d.n2 d.c2)/\wz.cell? (wr,6)=some (.bool c.b)/\wz.cell? (wr,7)=some (.slice c.a1 c.n1 c.c1)/\wz.cell? (wr,8)=some (.slice c.a2 c.n2 c.c2)/\wz.cell? (wr,9)=some (.slice y t p)):=a8 λwz g=>b1.out wz (U.out.trans g)
       go_upto_region 9 with(fail);apply NG [kN _,kN (.agg #[d.b,(d.a1,d.n1,d.c1),(d.a2,d.n2,d.c2)]),kQ,kQ,kQ,kN _,kN (.agg #[c.b,(c.a1,c.n1,c.c1),(c.a2,c.n2,c.c2)]),kQ,kQ,kQ,kQ,kN _,kQ,kQ,kQ,kN _,kN (.agg #[d.b,(d.a1,d.n1,d.c1),(d.a2,d.n2,d.c2)]),kQ,kQ,kQ,kQ,kQ,kN _,kQ,kQ,kQ,kN _,kN (.agg #[c.b,(c.a1,c.n1,c.c1),(c.a2,c.n2,c.c2)]),kQ,kQ,kQ,kQ] ?st ?en hF kr rfl kr
       case st=>
        refine⟨oR,oR,?_,oRm,oRm,oR,oR,?_,oRm,oRp,oRm,oR,oRb,oRm,oRm,oR,oR,?_,oRm,oRp,oRp,oRm,oR,oRb,oRm,oRm,oR,oR,?_,oRm,oRp,oRp,trivial⟩
        .intro S f wz hI hp hl hS;have q:f 1= .agg #[d.b,(d.a1,d.n1,d.c1),(d.a2,d.n2,d.c2)]:=hp.1 rfl trivial;refine oC (P:=prog) #[f 1] func31 rfl rfl ?_;rw[q];exact(uF _ _ wz (u.out.1.ext (U.out.trans hI)) (HOKr.out.1.1)).mono λe w' ⟨b,h1,h2⟩=>⟨_,h1,h2,b,rfl⟩
        .intro S f wz hI hp hl hS;have q:f 6= .agg #[c.b,(c.a1,c.n1,c.c1),(c.a2,c.n2,c.c2)]:=hp.1 rfl hS;refine oC (P:=prog) #[f 6] func31 rfl rfl ?_;rw[q];exact(uF _ _ wz (u.out.2.1.ext (U.out.trans hI)) (HOKr.out.1.2.1)).mono λe w' ⟨b,h1,h2⟩=>⟨_,h1,h2,b,rfl⟩
        .intro S f wz hI hp hl hS;have q:f 16= .agg #[d.b,(d.a1,d.n1,d.c1),(d.a2,d.n2,d.c2)]:=hp.1 rfl hS;refine oC (P:=prog) #[f 16] func32 rfl rfl ?_;rw[q];exact(wT _ _ wz (u.out.1.ext (U.out.trans hI))).mono λe w' ⟨b,h1,h2⟩=>⟨_,h1,h2,b,rfl⟩
        .intro S f wz hI hp hl hS;have q:f 27= .agg #[c.b,(c.a1,c.n1,c.c1),(c.a2,c.n2,c.c2)]:=hp.1 rfl hS;refine oC (P:=prog) #[f 27] func32 rfl rfl ?_;rw[q];exact(wT _ _ wz (u.out.2.1.ext (U.out.trans hI))).mono λe w' ⟨b,h1,h2⟩=>⟨_,h1,h2,b,rfl⟩
       case en=>
        intro f hJ hI hp;obtain⟨b,a0⟩:IsB (f 31):=hp.2.2.2.2.2.2.2.2.2.2.2.2.2.2.2.2.2.2.2.2.2.2.2.2.2.2.2.2.2.2.2.1 trivial;have fD:=a8 (a4.out.trans hI);have V:=a8 (U.out.trans hI);simp only[a0];clear hp hI a0
        cases b
        case true=>
         go_wp2;go_ret;exact⟨_,rfl,HE1.out.trans fD.out⟩
        case false=>
         clear HC;have HC:Hid (∀wz,Ext hJ wz->(wz.cell? w.heap.size=some (.string s)/\wz.cell? (w,1)=some (.string n)/\wz.cell? (w,2)=some (.slice (h,j) B z)/\wz.cell? (w,3)=some (.slice C m x))/\wz.cell? wr.heap.size=some (.string r.1)/\wz.cell? (wr,1)=some (.bool r.2.1.1)/\wz.cell? (wr,2)=some (.bool r.2.1.2)/\wz.cell? (wr,3)=some (.bool d.b)/\wz.cell? (wr,4)=some (.slice d.a1 d.n1 d.c1)/\wz.cell? (wr,5)=some (.slice d.a2 d.n2 d.c2)/\wz.cell? (wr,6)=some (.bool c.b)/\wz.cell? (wr,7)=some (.slice c.a1 c.n1 c.c1)/\wz.cell? (wr,8)=some (.slice c.a2 c.n2 c.c2)/\wz.cell? (wr,9)=some (.slice y t p)):=a8 λwz g=>b1.out wz (V.out.trans g)
         go_upto_region 11 with(fail);apply NG [kN _,kQ,kQ,kN _,kQ,kQ,kQ,kN _,kN (.agg #[d.b,(d.a1,d.n1,d.c1),(d.a2,d.n2,d.c2)]),nL (λJ wz=>qO 0 wz J (pX r.2.2.1.1)) (λJ a b A c=>c.ext A),kN _,kN (.agg #[c.b,(c.a1,c.n1,c.c1),(c.a2,c.n2,c.c2)]),nL (λJ wz=>qO 0 wz J (pX r.2.2.1.2)) (λJ a b A c=>c.ext A),kN (qP (pX r.2.2.1.1) (pX r.2.2.1.2):Int),kQ,kQ] ?st ?en hF kr rfl kr
         case st=>
          refine⟨oR,oRb,oRm,oR,oRb,oRp,oRm,oR,oR,?_,oR,oR,?_,?_,?_,oRp,trivial⟩
          .intro S f wz hI hp hl hS;have q:f 8= .agg #[d.b,(d.a1,d.n1,d.c1),(d.a2,d.n2,d.c2)]:=hp.1 rfl hS;refine oC (P:=prog) #[f 8] func34 rfl rfl ?_;rw[q];refine(wN _ _ 6 wz ((u.out.1.ext (V.out.trans hI)).is6 (HOKr.out.1.1)) om).mono ?_;exact mn1
          .intro S f wz hI hp hl hS;have q:f 11= .agg #[c.b,(c.a1,c.n1,c.c1),(c.a2,c.n2,c.c2)]:=hp.1 rfl hS;refine oC (P:=prog) #[f 11] func34 rfl rfl ?_;rw[q];refine(wN _ _ 6 wz ((u.out.2.1.ext (V.out.trans hI)).is6 (HOKr.out.1.2.1)) om).mono ?_;exact mn1
          .intro S f wz hI hp hl hS;have fE:qO 0 wz (f 9) (pX r.2.2.1.1):=hp.1 rfl hS;have T:qO 0 wz (f 12) (pX r.2.2.1.2):=hp.2.1 rfl hS;refine oC (P:=prog) #[f 9,f 12] func33 rfl rfl ?_;have:=MF ((u.out.1.ext (V.out.trans hI)).is6 (HOKr.out.1.1));have:=MF ((u.out.2.1.ext (V.out.trans hI)).is6 (HOKr.out.1.2.1));refine(MT _ _ _ _ 30 30 wz fE.cq T.cq om om om).mono ?_;exact DR3
          .intro S f wz hI hp hl hS;have q:f 13=(qP (pX r.2.2.1.1) (pX r.2.2.1.2):Int):=hp.1 rfl hS;clear hp;obtain⟨K,g⟩:=ex (qP (pX r.2.2.1.1) (pX r.2.2.1.2));rw[<-g]at q;clear g;by_cases hT:0<K
           .exact pN8
           .exact pN8
         case en=>
          intro f hK hI hp;obtain⟨b,fG⟩:IsB (f 15):=hp.2.2.2.2.2.2.2.2.2.2.2.2.2.2.2.1 trivial;have g0:=a8 (fD.out.trans hI);have b2:=a8 (V.out.trans hI);simp only[fG];clear hp hI fG
          cases b
          case true=>
           go_wp2;go_ret;exact⟨_,rfl,HE1.out.trans g0.out⟩
          case false=>
           clear HC;have HC:Hid (∀wz,Ext hK wz->(wz.cell? w.heap.size=some (.string s)/\wz.cell? (w,1)=some (.string n)/\wz.cell? (w,2)=some (.slice (h,j) B z)/\wz.cell? (w,3)=some (.slice C m x))/\wz.cell? wr.heap.size=some (.string r.1)/\wz.cell? (wr,1)=some (.bool r.2.1.1)/\wz.cell? (wr,2)=some (.bool r.2.1.2)/\wz.cell? (wr,3)=some (.bool d.b)/\wz.cell? (wr,4)=some (.slice d.a1 d.n1 d.c1)/\wz.cell? (wr,5)=some (.slice d.a2 d.n2 d.c2)/\wz.cell? (wr,6)=some (.bool c.b)/\wz.cell? (wr,7)=some (.slice c.a1 c.n1 c.c1)/\wz.cell? (wr,8)=some (.slice c.a2 c.n2 c.c2)/\wz.cell? (wr,9)=some (.slice y t p)):=a8 λwz g=>b1.out wz (b2.out.trans g)
           go_upto_region 13 with(fail);apply NG [kN _,kN (y,t,p),kN _,kN (y,t,p),nL (λJ wz=>TO 0 1000 wz J (mkV (lR r.2.2.2))) (λJ a b A c=>c.ext A),kQ,kQ] ?st ?en hF kr rfl kr
           case st=>
            refine⟨oR,oR,oR,oR,?_,?_,oRm,trivial⟩
            .intro S f wz hI hp hl hS;have q:f 3=(y,t,p):=hp.1 rfl trivial;refine oC (P:=prog) #[f 3] func36 rfl rfl ?_;rw[q];have:(lR r.2.2.2).length<=30:=by unfold lR;rw[aF];exact HOKr.out.1.2.2.1
             refine(ON 6 _ (lR r.2.2.2) wz ((u.out.2.2.ext (b2.out.trans hI)).tl 6 om de HOKr.out.1.2.2.2) om om).mono ?_;rintro e w' ⟨v',rfl,h1,h2⟩;exact⟨_,rfl,h2,(h1.mono zl).le om⟩
            .intro S f wz hI hp hl hS;have q:f 1=(y,t,p):=hp.1 rfl trivial;have e5:TO 0 1000 wz (f 4) (mkV (lR r.2.2.2)):=hp.2.1 rfl trivial;refine oC (P:=prog) #[f 1,f 4] func35 rfl rfl ?_;rw[q];refine(F5 _ _ _ _ wz (u.out.2.2.ext (b2.out.trans hI)) (e5.tle de)).mono ?_;rintro e w' ⟨rfl,h2⟩;exact⟨_,rfl,h2,_,rfl⟩
           case en=>
            intro f g1 hI hp;obtain⟨b,g2⟩:IsB (f 6):=hp.2.2.2.2.2.2.1 trivial;have e6:=a8 (g0.out.trans hI);have HW9:=a8 (b2.out.trans hI);simp only[g2];clear hp hI g2
            cases b
            case true=>
             go_wp2;go_ret;exact⟨_,rfl,HE1.out.trans e6.out⟩
            case false=>
             clear HC;have HC:Hid (∀wz,Ext g1 wz->(wz.cell? w.heap.size=some (.string s)/\wz.cell? (w,1)=some (.string n)/\wz.cell? (w,2)=some (.slice (h,j) B z)/\wz.cell? (w,3)=some (.slice C m x))/\wz.cell? wr.heap.size=some (.string r.1)/\wz.cell? (wr,1)=some (.bool r.2.1.1)/\wz.cell? (wr,2)=some (.bool r.2.1.2)/\wz.cell? (wr,3)=some (.bool d.b)/\wz.cell? (wr,4)=some (.slice d.a1 d.n1 d.c1)/\wz.cell? (wr,5)=some (.slice d.a2 d.n2 d.c2)/\wz.cell? (wr,6)=some (.bool c.b)/\wz.cell? (wr,7)=some (.slice c.a1 c.n1 c.c1)/\wz.cell? (wr,8)=some (.slice c.a2 c.n2 c.c2)/\wz.cell? (wr,9)=some (.slice y t p)):=a8 λwz g=>b1.out wz (HW9.out.trans g)
             by_cases g3:t=0
             .subst g3;have hL:¬(0:Int)<((0:Nat):Int):=om;go_upto_region 15 with(fail);apply NG [kN _,kN (.slice y 0 p),kN (0:Int),kN false,kN false,kV,kV,kV,kV,kV,kV,kV,kV,kV,kV,kV,kV,kV,kQ] ?st ?en hF kr rfl kr
              case st=>
               refine⟨oR,oR,oR,oR,oR,oRx,oRx,oRx,oRx,oRx,oRx,oRx,oRx,oRx,oRx,oRx,oRx,oRx,oRb,trivial⟩
              case en=>
               intro f hM hI hp;obtain⟨b,q18⟩:IsB (f 18):=hp.2.2.2.2.2.2.2.2.2.2.2.2.2.2.2.2.2.2.1 trivial;have HX10:=a8 (e6.out.trans hI);exact pb8
             .obtain⟨v,rfl⟩:∃v,t=v+1:=⟨t - 1,om⟩;obtain⟨_,mt,_,g4,g5, -,g6⟩:=TLE.at u.out.2.2;have g7:v+1=mt:=by cases g5;rfl
              have:v+1<=30:=by rw[g7,g4];exact HOKr.out.1.2.2.1
              obtain⟨e,g9⟩:∃e,r.2.2.2[v]? =some e:=⟨_,aA om⟩;have hN:=g6 v e g9
              cases g5
              obtain⟨X,Y,hO,hP⟩:=hN;subst hO;obtain⟨_,_,_,_,_,_,_, -, -,gA, -⟩:=hP;have gG:Hid (∃K:Int,∀wz,Ext b0 wz->wz.cell? (X,Y+v*4)=some (.int .i64 K)):=a8 ⟨e.1,λwz g=>gA wz g 0 _ rfl⟩;clear gA g6 g9 g4 g7;obtain⟨K,g⟩:=gG.out;have gL:=HC;clear HC gG;have HC:Hid (∀wz,Ext g1 wz->((wz.cell? w.heap.size=some (.string s)/\wz.cell? (w,1)=some (.string n)/\wz.cell? (w,2)=some (.slice (h,j) B z)/\wz.cell? (w,3)=some (.slice C m x))/\wz.cell? wr.heap.size=some (.string r.1)/\wz.cell? (wr,1)=some (.bool r.2.1.1)/\wz.cell? (wr,2)=some (.bool r.2.1.2)/\wz.cell? (wr,3)=some (.bool d.b)/\wz.cell? (wr,4)=some (.slice d.a1 d.n1 d.c1)/\wz.cell? (wr,5)=some (.slice d.a2 d.n2 d.c2)/\wz.cell? (wr,6)=some (.bool c.b)/\wz.cell? (wr,7)=some (.slice c.a1 c.n1 c.c1)/\wz.cell? (wr,8)=some (.slice c.a2 c.n2 c.c2)/\wz.cell? (wr,9)=some (.slice (X,Y) (v+1) p))/\wz.cell? (X,Y+v*4)=some (.int .i64 K)):=a8 λwz gT=>⟨gL.out wz gT,g wz (HW9.out.trans gT)⟩
              clear g gL g3;have hL:(0:Int)<((v:Int)+1):=om;have:(v:Int)<v+1:=om;have hR:IntKind.i64.wrap (v:Int)=v:=cY _ om;go_upto_region 15 with(fail);apply NG [kN _,kN (X,Y,v+1,p),kN _,kN true,kN true,kN _,kN (X,Y,v+1,p),kN _,kN (X,Y,v+1,p),kN _,kN _,kN _,kN _,kN K,kN _,kN (C,m,x),kN m,kQ,kQ] ?st ?en hF kr rfl kr
              case st=>
               refine⟨oR,oR,oR,oR,oR,oR,oR,oR,oR,oR,oR,oR,oR,oR,oR,oR,oR,?_,?_,trivial⟩
               .intro S f wz hI hp hl hS;have fE:f 13=K:=hp.1 rfl hS;have T:f 16=m:=hp.2.1 rfl hS;clear hp;by_cases hU:(m:Int)<=K
                .exact pN8
                .exact pN8
               .intro S f wz hI hp hl hS;have e5:f 4=true:=hp.1 rfl trivial;obtain⟨b,q⟩:IsB (f 17):=hp.2.1 rfl e5;exact vu0
              case en=>
               intro f hM hI hp;obtain⟨b,q18⟩:IsB (f 18):=hp.2.2.2.2.2.2.2.2.2.2.2.2.2.2.2.2.2.2.1 trivial;have HX10:=a8 (e6.out.trans hI);clear hR;exact pb8
open Go.Maps Go.ChangeShapes Go.WideShapes Go.ChangeAt
theorem OO(b:Rat):b*((b.den:Int):Rat)=(b.num:Rat):=by
 have c:b=(b.num:Rat) / ((b.den:Int):Rat):=by rw[<-Rat.divInt_eq_div];exact(Rat.num_divInt_den b).symm
 have d:((b.den:Int):Rat)≠0:=λe=>by
  have:((b.den:Int):Rat)=((0:Int):Rat):=e;have:=Rat.intCast_inj.1 this;have:=b.den_pos;omega
 conv=>lhs;lhs;rw[c]
 exact Rat.div_mul_cancel d
def Lim(D A:Nat)(q:Rat):Prop:=∃z:Int,q*((D:Int):Rat)=(z:Rat)/\z.natAbs<=A*D
theorem Lim.zero(b c:Nat):Lim b c 0:=⟨0,by rw[Rat.zero_mul];rfl,sm⟩
theorem Lim.mono(b:Lim c d u)(f:d<=e):Lim c e u:=by
 obtain⟨g,h,i⟩:=b;exact⟨g,h,aE i (aJ c f)⟩
theorem Lim.add{b:Rat}(f:Lim c d u)(g:Lim c e b):Lim c (d+e) (u+b):=by
 obtain⟨h,i,_⟩:=f;obtain⟨j,k,_⟩:=g;refine⟨h+j,by rw[Rat.add_mul,i,k,Rat.intCast_add],?_⟩;rw[bX];omega
theorem Lim.mul{b:Rat}(h:Lim c e u)(i:Lim d v b):Lim (c*d) (e*v) (u*b):=by
 obtain⟨f,j,k⟩:=h;obtain⟨g,l,m⟩:=i;refine⟨f*g,?_,?_⟩
 .rw[cL,dZ,dZ,<-j,<-l];grind
 .rw[fX];have:=cW k m;calc f.natAbs*g.natAbs<=e*c*(v*d):=this
   _=e*v*(c*d):=by grind
theorem Lim.scale(b:Nat)(e:Lim c d u):Lim (c*b) d u:=by
 obtain⟨f,g,h⟩:=e;refine⟨f*(b:Int),?_,?_⟩
 .rw[cL,dZ,dZ,<-g];grind
 .rw[fX,jV,<-cG];exact aJ _ h
theorem Lim.scaleL(b:Nat)(e:Lim c d u):Lim (b*c) d u:=by rw[bF];exact e.scale b
theorem Lim.of{q:Rat}(e:q.den ∣ c)(g:0<c)(f:q.num.natAbs<=d):Lim c d q:=by
 obtain⟨b,rfl⟩:=e;refine⟨q.num*(b:Int),?_,?_⟩
 .rw[cL,dZ,dZ,<-Rat.mul_assoc];rw[OO]
 .rw[fX,jV];refine cW f ?_;exact cX b q.den_pos
theorem MP{b:Nat}{c:Int}(e:0<b)(i:u*((b:Int):Rat)=(c:Rat)):u.num.natAbs<=c.natAbs/\u.den<=b:=by
 have g:u.num*(b:Int)=c*(u.den:Int):=by
  have:=congrArg (λj:Rat=>j*((u.den:Int):Rat)) i;rw[Rat.mul_assoc,Rat.mul_comm ((b:Int):Rat),<-Rat.mul_assoc,OO,<-dZ,<-dZ]at this;exact Rat.intCast_inj.1 this
 have h:u.den ∣ b:=by
  have k:u.num.natAbs*b=c.natAbs*u.den:=by
   have:=congrArg Int.natAbs g;rw[fX,fX]at this;simpa using this
  exact u.reduced.symm.dvd_of_dvd_mul_left ⟨c.natAbs,by rw[k,bF]⟩
 refine⟨?_,iS e h⟩;obtain⟨d,rfl⟩:=h;have l:0<d:=by
  rcases aR d with f |f
  .rw[f]at e;simp at e
  .exact f
 have m:c=u.num*(d:Int):=by
  have n:(u.den:Int)*(u.num*(d:Int))=(u.den:Int)*c:=by
   rw[cL]at g;grind
  exact(Int.eq_of_mul_eq_mul_left (by have:=u.den_pos;omega) n).symm
 rw[m,fX,jV];exact eY _ l
theorem Lim.parts(b:0<c)(f:Lim c d u):u.num.natAbs<=d*c/\u.den<=c:=by
 obtain⟨_,e,g⟩:=f;exact⟨aE (MP b e).1 g,(MP b e).2⟩
theorem Lim.floor{c d:Nat}{b:Rat}(h:Lim c d b):Lim c (d+1) (b.floor:Rat):=by
 obtain⟨e,f,_⟩:=h;refine⟨b.floor*(c:Int),by rw[dZ],?_⟩;have i:(b.floor:Rat)<=b:=Rat.floor_le _;have j:b<(b.floor:Rat)+1:=by have:=Rat.lt_floor (x:=b);grind
 have g:(0:Rat)<=((c:Int):Rat):=by rw[show (0:Rat)=((0:Int):Rat)from rfl,iZ];omega
 have k:b.floor*(c:Int)<=e:=by
  have:=Rat.mul_le_mul_of_nonneg_right i g;rw[f,<-dZ,iZ]at this;exact this
 have l:e<=b.floor*(c:Int)+c:=by
  have:=Rat.mul_le_mul_of_nonneg_right (Rat.le_of_lt j) g;rw[f,Rat.add_mul,Rat.one_mul,<-dZ,<-Rat.intCast_add,iZ]at this;exact this
 rw[bX,fW];omega
theorem Lim.neg(b:Lim c d u):Lim c d (-u):=by
 obtain⟨e,f,g⟩:=b;exact⟨-e,by rw[Rat.neg_mul,f,Rat.intCast_neg],by rw[iG];exact g⟩
theorem Lim.ceil(b:Lim c d u):Lim c (d+1) (u.ceil:Rat):=by
 rw[Rat.ceil_eq_neg_floor_neg,Rat.intCast_neg];exact b.neg.floor.neg
def P2(n:Nat):Nat:=2^n
theorem wV(b:Nat):0<P2 b:=cZ om
theorem uD{a b:Nat}(c:a<=b):P2 a<=P2 b:=eV om c
theorem ac9{a:Nat}(b:a<c):P2 a<P2 c:=Nat.pow_lt_pow_right om b
theorem xX(a b:Nat):P2 (a+b)=P2 a*P2 b:=eU 2 a b
theorem SX(b:Nat):W^b=P2 (64*b):=by
 unfold P2;rw[Nat.pow_mul];rfl
theorem Lim.sz(b:0<c)(f:0<d)(g:Lim c d u)(h:d*c<P2 (64*e)):szQ u<=e:=by
 rw[<-SX]at h;obtain⟨_,_⟩:=g.parts b;have:c<=d*c:=cX c f;exact fH.2 ⟨nG lF om,nG lF om⟩
theorem Lim.sumAt{d f:Nat}{b:List (Int×Rat)}(g:∀c∈b,Lim d f c.2)(e:Int):Lim d (b.length*f) (sumAt b e):=by
 induction b with
 |nil=>exact Lim.zero _ _
 |cons c b j=>
  have h:=j λk l=>g k (aN _ l)
  have m:=g c aT;rw[bH,bX,fW,fL];show Lim d _ ((if c.1=e then c.2 else 0)+Go.Proofs.YtjlcilmjfejimaaGreat.sumAt b e);by_cases i:c.1=e
  .rw[if_pos i];exact m.add h
  .rw[if_neg i];exact(Lim.zero d f).add h
theorem Lim.getV{c d:Nat}{b:List (Int×Rat)}(f:∀g∈b,Lim c d g.2)(e:Int):Lim c (b.length*d) (getV b e):=by
 unfold Go.Proofs.YtjlcilmjfejimaaGreat.getV;split
 .exact Lim.sumAt f e
 .exact Lim.zero _ _
theorem TR(c:Nf j)(b:U∈j):getV j U.1=U.2:=by
 induction j with
 |nil=>cases b
 |cons g j d=>
  rw[c.1.getV_cons];rcases aS.1 b with rfl |b
  .rw[if_pos rfl]
  .have:=c.1.tail.2.2 U b;rw[if_neg om];exact d ⟨c.1.tail.1,λe f=>c.2 e (aN _ f)⟩ b
theorem Lim.mkV{D A:Nat}(c:∀b∈j,Lim D A b.2):∀b∈mkV j,Lim D (j.length*A) b.2:=λb d=>by
 rw[<-TR (tK j) d,sM];exact Lim.getV c _
theorem aa3(c:U∈mkV j):∃b∈j,b.1=U.1:=Classical.byContradiction λe=>by
 have d:=(tK j).2 U c;rw[<-TR (tK j) c,sM,tT λb f g=>e ⟨b,f,g⟩]at d;exact d rfl
def uK(n:Nat)(l:List (Int×Rat)):Prop:=Nf l/\∀x∈l,x.1<(n:Int)
theorem TF:∀{l:List (Int×Rat)} {a:Int} {n:Nat},Up l->a<=n->(∀b∈l,a<=b.1/\b.1<(n:Int))->(l.length:Int)<=n - a
 | [],a,n,_,ha,_=>by simp;omega
 |b::l,a,n,hu,ha,h=>by
  have:=h b aT;have:=TF (l:=l) (a:=b.1+1) (n:=n) hu.tail.1 om λc d=>⟨by have:=hu.tail.2.2 c d;omega,(h c (aN _ d)).2⟩
  simp only[bH];omega
theorem uK.len(b:uK c j):j.length<=c:=by
 have:=TF (a:=0) b.1.1 om λd e=>⟨b.1.1.2 d e,b.2 d e⟩
 omega
theorem uK.mk{b:Nat}(d:∀c∈j,c.1<(b:Int)):uK b (mkV j):=⟨tK j,λc e=>by
 obtain⟨f,g,h⟩:=aa3 e;rw[<-h];exact d f g⟩
theorem uK.nil(b:Nat):uK b []:=⟨Nf.nil,λ_ c=>by cases c⟩
theorem uK.self(b:uK c j):Go.Proofs.YtjlcilmjfejimaaGreat.mkV j=j:=XW b.1
theorem Lim.at(h:Nf j)(k:∀b∈j,Lim c d b.2)(e:Int):Lim c d (Go.Proofs.YtjlcilmjfejimaaGreat.getV j e):=by
 by_cases f:∃b∈j,b.1=e
 .obtain⟨b,g,rfl⟩:=f;rw[TR h g];exact k b g
 .rw[tT λl m n=>f ⟨l,m,n⟩];exact Lim.zero _ _
theorem Lim.sumN{d e:Nat}{f:Nat->Rat}:∀{b:Nat},(∀c,c<b->Lim d e (f c))->Lim d (b*e) (sumN f b)
 |0,_=>Lim.zero _ _
 |b+1,h=>by
  rw[bX,fW];exact(Lim.sumN λc _=>h c om).add (h b om)
def vV(D A:Nat)(c:CR):Prop:=(∀x∈c.2.1,Lim D A x.2)/\Lim D A c.2.2
theorem vV.mono{b c d:Nat}{e:CR}(f:vV b c e)(g:c<=d):vV b d e:=⟨λh i=>(f.1 h i).mono g,f.2.mono g⟩
theorem vV.scale{c d:Nat}(b:Nat){e:CR}(f:vV c d e):vV (c*b) d e:=⟨λg h=>(f.1 g h).scale b,f.2.scale b⟩
theorem vV.comb{E:Nat}{qs:List Rat}(n:∀h∈i,uK e h.2.1/\vV c d h)(l:∀j∈qs,Lim E B j):uK e (oD i qs s).2.1/\vV (c*E) (i.length*(d*B)) (oD i qs s):=by
 have p:∀b,Lim E B (qs.getD b 0):=λb=>by
  rw[aO]
  cases k:qs[b]? with
  |none=>exact Lim.zero _ _
  |some j=>exact l j (aM k)
 have m:∀b,Nf ((nH i).getD b [])/\(∀g∈(nH i).getD b [],g.1<(e:Int)/\Lim c d g.2):=λb=>by
  rw[aO];unfold nH;rw[aX]
  cases k:i[b]? with
  |none=>exact ⟨Nf.nil,λg f=>by cases f⟩
  |some h=>
   have:=n h (aM k);exact⟨this.1.1,λg f=>⟨this.1.2 g f,this.2.1 g f⟩⟩
 have u:∀b,Lim c d (i.getD b crD).2.2:=λb=>by
  rw[aO]
  cases k:i[b]? with
  |none=>exact Lim.zero _ _
  |some h=>exact (n h (aM k)).2.2
 have q:∀{r j:Rat},Lim E B r->Lim c d j->Lim (c*E) (d*B) (r*j):=λv l=>by
  rw[Rat.mul_comm];exact l.mul v
 refine⟨uK.mk λg f=> ?_,λg f=> ?_,?_⟩
 .unfold rF at f;obtain⟨b, -,t⟩:=dL.1 f;unfold scV at t;obtain⟨x,y,rfl⟩:=bJ.1 t;exact((m b).2 x y).1
 .rw[<-TR (tK _) f,sM,NQ];exact Lim.sumN λb _=>q (p b) (Lim.at (m b).1 (λg f=>((m b).2 g f).2) _)
 .exact Lim.sumN λb _=>q (p b) (u b)
theorem vV.round(b:uK e R.2.1)(f:vV d c R)(j:0<c)(h:0<d):uK e (n7 R).2.1/\vV d (c+1) (n7 R):=by
 have g:vV d (c+1) R:=f.mono om;unfold n7;split
 .rw[b.self];exact⟨b,g.1,f.2.floor⟩
 .split
  .rw[b.self];exact⟨b,g.1,f.2.ceil⟩
  .split
   .unfold mW;rw[b.self];exact⟨b,g⟩
   .exact⟨uK.nil e,⟨λ_ i=>(by cases i),Lim.of (q:=((1:Int):Rat)) (Nat.one_dvd _) h (Nat.le_add_left 1 c)⟩⟩
theorem U6{b:List Nat}(c:Dig W b):BY b<=W^b.length:=by
 unfold BY;split
 .exact cZ (by rw[lX];omega)
 .exact iE (pU (by rw[lX];omega) c)
theorem YC(b:RE):pX b*((BY b.2.2:Int):Rat)=(JK b.1 b.2.1:Rat):=by
 have c:((BY b.2.2:Int):Rat)≠0:=λd=>by
  have:((BY b.2.2:Int):Rat)=((0:Int):Rat):=d;have:=Rat.intCast_inj.1 this;have:=P6 b.2.2;omega
 unfold pX rawR;rw[show mkRat (JK b.1 b.2.1) (BY b.2.2)=Rat.divInt (JK b.1 b.2.1) ((BY b.2.2:Nat):Int)from rfl,Rat.divInt_eq_div];exact Rat.div_mul_cancel c
theorem BW(b:RE):(pX b).num.natAbs<=(JK b.1 b.2.1).natAbs/\(pX b).den<=BY b.2.2:=MP (P6 _) (YC b)
theorem YD(b:vU K)(c:mH K<=6):(pX K).num.natAbs<=P2 384:=by
 refine aE (BW K).1 ?_;unfold JK;rw[n8];refine aE (iE (pU (by rw[lX];omega) b.1)) ?_;rw[SX];unfold mH at c;exact uD om
theorem YB(c:vU K)(d:mH K<=6):(pX K).den<=P2 320:=by
 unfold mH at d;by_cases b:K.2.1=[]
 .have e:pX K=0:=by
   unfold pX rawR JK;rw[b]
   cases K.1<;>exact Rat.zero_mkRat _
  rw[e];exact wV 320
 .have:=fJ.2 b;refine aE (BW K).2 (aE (U6 c.2.1) ?_);rw[SX];exact uD om
theorem W5(d:vU K):(pX K).den<=P2 (16+64*uL K):=by
 refine aE (BW K).2 ?_;unfold uL;by_cases b:sF K.2.2=true
 .refine aE (?_:_<=P2 16) (uD om);unfold BY;match K.2.2,b with
  | [],_=>exact wV 16
  | [x],c=>
   have c:x<65536:=by simpa[sF]using c
   have:val W [x]=x:=by simp[val]
   have e:P2 16=65536:=de;rw[this,e];split<;>omega
 .have:(sF K.2.1&&sF K.2.2)=false:=by simp[b]
  rw[this];refine aE (U6 d.2.1) ?_;rw[SX];unfold mH;exact uD (by simp;omega)
def vW:List RE->Nat
 | []=>1
 |e::l=>(pX e).den*vW l
theorem tD:∀b:List RE,0<vW b
 | []=>Nat.one_pos
 |e::b=>dW (pX e).den_pos (tD b)
theorem O1{d:RE}:∀{b:List RE},d∈b->(pX d).den ∣ vW b
 |x::b,c=>by
  rcases aS.1 c with rfl |c
  .exact Nat.dvd_mul_right _ _
  .exact Nat.dvd_trans (O1 c) (Nat.dvd_mul_left _ _)
theorem TH:∀{b:List RE},(∀c∈b,vU c/\mH c<=6)->vW b<=P2 (320*b.length)
 | [],_=>wV _
 |x::b,h=>by
  have d:=h x aT;rw[bH,bK,dG,fL,xX];exact cW (YB d.1 d.2) (TH λc e=>h c (aN _ e))
theorem CJ:∀{b:List RE},(∀c∈b,vU c)->vW b<=P2 (16*b.length+64*lQ b)
 | [],_=>wV _
 |d::b,h=>by
  have e:=h d aT
  have c:16*(d::b).length+64*lQ (d::b)=(16+64*uL d)+(16*b.length+64*lQ b):=by
   rw[bH];show 16*(b.length+1)+64*(uL d+lQ b)=_;omega
  rw[c,xX];exact cW (W5 e) (CJ λc f=>h c (aN _ f))
theorem Lim.rat{b:List RE}(c:K∈b)(d:vU K)(e:mH K<=6):Lim (vW b) (P2 384) (pX K):=Lim.of (O1 c) (tD b) (YD d e)
def StQ(n t:Nat)(cs:List CR)(ds:List DR):Prop:=
 (∃D,0<D/\D<=P2 (748800+1648*t)/\∀c∈cs++ds.map (·.c),uK n c.2.1/\vV D (P2 (389+395*t)) c)/\∀d∈ds,∀x∈d.us,szQ x.2<=13000
theorem StQ.sz{i c:Nat}{e:List CR}{f:List DR}(j:StQ i c e f)(s:c<=40){b:CR}(k:b∈e++f.map (·.c)):(∀d∈b.2.1,szQ d.2<=13000)/\szQ b.2.2<=13000:=by
 obtain⟨⟨l,g,m,n⟩, -⟩:=j;have h:P2 (389+395*c)*l<P2 (64*13000):=by
  refine iL (bV _ m) ?_;rw[<-xX];exact ac9 om
 obtain⟨-,p,q⟩:=n b k;exact⟨λd r=>(p d r).sz g (wV _) h,q.sz g (wV _) h⟩
theorem StQ.len{c f:Nat}{d:List CR}{e:List DR}(g:StQ c f d e){b:CR}(h:b∈d++e.map (·.c)):b.2.1.length<=c:=by
 obtain⟨⟨_,_,_,i⟩, -⟩:=g;exact(i b h).1.len
theorem StQ.next(g:StQ c d i k):StQ c (d+1) i k:=by
 obtain⟨⟨h,j,l,b⟩,m⟩:=g;exact⟨⟨h,j,aE l (uD om),λe f=>⟨(b e f).1,(b e f).2.mono (uD om)⟩⟩,m⟩
theorem StQ.add(f:Nat)(m:StQ c d i k)(n:0<f)(p:f<=P2 1648)(q:∀r∈O.us,szQ r.2<=13000)
  (s:∀e,0<e->(∀g∈i++k.map (·.c),uK c g.2.1/\vV e (P2 (389+395*d)) g)->uK c O.c.2.1/\vV (e*f) (P2 (389+395*(d+1))) O.c):StQ c (d+1) i (k++ [O]):=by
 obtain⟨⟨e,l,t,j⟩,u⟩:=m;refine⟨⟨e*f,dW l n,?_,λg b=> ?_⟩,λv h=> ?_⟩
 .refine aE (cW t p) ?_;rw[<-xX];exact uD om
 .rw[bY,<-aG]at b;rcases aW.1 b with b |b
  .exact⟨(j g b).1,((j g b).2.scale f).mono (uD om)⟩
  .rw[dQ,eT,aC]at b;subst b;exact s e l j
 .rcases aW.1 h with h |h
  .exact u v h
  .rw[aC.1 h];exact q
theorem vO(c:nU z=false):z.length<=30/\(∀b∈z,mH b.2<=6)/\lQ (z.map Prod.snd)<=18:=by
 unfold nU oU at c;simp only[eH,decide_eq_false_iff_not,fS,decide_eq_true_eq,aF]at c;exact⟨om,λb d=>by have:=c.1 b.2 (bJ.2 ⟨b,d,rfl⟩);omega,om⟩
theorem uG(b:List TE):(sY b).length=b.length:=by unfold sY;rw[aF]
theorem DV{r:List RE}(f:∀b∈z,vU b.2)(g:∀b∈z,mH b.2<=6)(h:∀b∈z,b.2∈r)(i:z.length<=30):∀c∈mkV (sY z),Lim (vW r) (30*P2 384) c.2:=λc j=>by
 refine(Lim.mkV (D:=vW r) (A:=P2 384) (λ_ e=> ?_) c j).mono (aJ _ (by rw[uG];exact i));unfold sY at e;obtain⟨b,d,rfl⟩:=bJ.1 e;exact Lim.rat (h b d) (f b d) (g b d)
theorem b389:30*P2 384<=P2 389:=by
 rw[show 389=5+384 from rfl,xX];exact aJ _ de
theorem Q0(e:∀b∈z,vU b.2)(f:nU z=false):∀c∈mkV (sY z),szQ c.2<=13000:=λc g=>by
 obtain⟨h,i,_⟩:=vO f;have j:=DV (r:=z.map Prod.snd) e i (λb d=>bJ.2 ⟨b,d,rfl⟩) h c g;refine j.sz (tD _) (dW om (wV _)) ?_
 have k:vW (z.map Prod.snd)<=P2 1648:=aE (CJ λb d=>by
  obtain⟨l,m,rfl⟩:=bJ.1 d;exact e l m) (uD (by rw[aF];omega))
 refine iL (cW b389 k) ?_;rw[<-xX];exact ac9 om
theorem UV(c:∀b∈z,vU b.2)(d:nU z=false):vW (z.map Prod.snd)<=P2 1648:=by
 obtain⟨_,_,_⟩:=vO d;exact aE (CJ λb e=>by
  obtain⟨f,g,rfl⟩:=bJ.1 e;exact c f g) (uD (by rw[aF];omega))
theorem CP{P:CR->Prop}(d:∀b∈i++k.map (·.c),P b)(e:P (0,[],0))(c:Nat):P (nA i k c):=by
 unfold nA;rw[aO]
 cases f:(i++k.map (·.c))[c]? with
 |none=>exact e
 |some b=>exact d b (aM f)
theorem DN(C:0<e)(m:∀b∈i++k.map (·.c),uK d b.2.1/\vV e (P2 (389+395*c)) b)(n:∀f∈z,vU f.2)(p:nU z=false):
  uK d (oD (usC i k (mkV (sY z))) ((mkV (sY z)).map (·.2)) s).2.1/\vV (e*vW (z.map Prod.snd)) (P2 (394+(389+395*c))) (oD (usC i k (mkV (sY z))) ((mkV (sY z)).map (·.2)) s):=by
 obtain⟨h,q,_⟩:=vO p;have r:=DV (r:=z.map Prod.snd) n q (λf t=>bJ.2 ⟨f,t,rfl⟩) h;have u:∀b∈usC i k (mkV (sY z)),uK d b.2.1/\vV e (P2 (389+395*c)) b:=λb j=>by
  unfold usC at j;obtain⟨_, -,rfl⟩:=bJ.1 j;exact CP (P:=λb=>uK d b.2.1/\vV e (P2 (389+395*c)) b) m ⟨uK.nil d,⟨λl g=>(bI g).elim,Lim.zero _ _⟩⟩ _
 obtain⟨v,x⟩:=vV.comb (s:=s) u (qs:=(mkV (sY z)).map (·.2)) (E:=vW (z.map Prod.snd)) (B:=30*P2 384) (λ_ y=>by
  obtain⟨l,g,rfl⟩:=bJ.1 y;exact r l g)
 refine⟨v,x.mono ?_⟩;have A:(usC i k (mkV (sY z))).length<=30:=by
  unfold usC;rw[aF];exact aE (AK _) (by rw[uG];exact h)
 have B:30*30<=P2 10:=de;calc (usC i k (mkV (sY z))).length*(P2 (389+395*c)*(30*P2 384))<=30*(P2 (389+395*c)*(30*P2 384)):=aJ _ A
  _=(30*30)*(P2 384*P2 (389+395*c)):=by ac_rfl
  _<=P2 10*(P2 384*P2 (389+395*c)):=aJ _ B
  _=P2 (394+(389+395*c)):=by rw[<-xX,<-xX];congr 1;omega
theorem StQ.sum(f:StQ c d i k)(b:∀g∈z,vU g.2)(e:nU z=false):StQ c (d+1) i (k++ [PS i k (mkV (sY z)) D]):=
 f.add (vW (z.map Prod.snd)) (tD _) (UV b e) (Q0 b e) λ_ h j=>by
  obtain⟨l,m⟩:=DN (s:=D) h j b e;exact⟨l,m.mono (uD om)⟩
theorem StQ.rnd(l:StQ d c i k)(b:∀e∈z,vU e.2)(f:nU z=false):StQ d (c+1) i (k++ [PD i k x (mkV (sY z)) D]):=
 l.add (vW (z.map Prod.snd)) (tD _) (UV b f) (Q0 b f) λ_ g m=>by
  obtain⟨n,p⟩:=DN (s:=D) g m b f;obtain⟨q,h⟩:=p.round n (wV _) (dW g (tD _))
  have j:P2 (394+(389+395*c))+1<=P2 (389+395*(c+1)):=by
   have e:389+395*(c+1)=(394+(389+395*c))+1:=om;have r:=xX (394+(389+395*c)) 1;rw[e,r,show P2 1=2 from rfl];have:=wV (394+(389+395*c));omega
  exact⟨q,⟨λs t=>(h.1 s t).mono j,h.2.mono j⟩⟩
theorem GO(b:o7 [E]=false):E.2.1.length<=30/\(∀c∈E.2.1,mH c.2<=6)/\mH E.2.2<=6/\lQ (E.2.2::E.2.1.map Prod.snd)<=18:=by
 obtain⟨-,d⟩:=GN b;obtain⟨e,f,g⟩:=d E aT;refine⟨e,f,g,?_⟩;unfold o7 at b;simp only[eH,decide_eq_false_iff_not]at b;have:=b.2.2;have:tN [E]=lQ (E.2.1.map Prod.snd)+lQ [E.2.2]:=rfl;have:lQ [E.2.2]=uL E.2.2:=rfl;have:lQ (E.2.2::E.2.1.map Prod.snd)=uL E.2.2+lQ (E.2.1.map Prod.snd):=rfl;omega
theorem VG(q:0<c)(i:(∀b∈E.2.1,vU b.2)/\vU E.2.2)(j:o7 [E]=false)(f:yH (FA E) e=true):
  uK e (mW (FA E)).2.1/\vV (c*vW (E.2.2::E.2.1.map Prod.snd)) (P2 (389+395*(d+1))) (mW (FA E)):=by
 obtain⟨k,l,m,_⟩:=GO j;have n:30*P2 384<=P2 (389+395*(d+1)):=aE b389 (uD om);unfold yH at f;simp only[aU,hQ,fS,decide_eq_true_eq]at f;refine⟨⟨tK _,λg h=>by have:=f.2 g h;omega⟩,λg h=> ?_,?_⟩
 .exact((DV (r:=E.2.2::E.2.1.map Prod.snd) i.1 l (λb p=>aN _ (bJ.2 ⟨b,p,rfl⟩)) k g h).mono n).scaleL c
 .exact((Lim.rat aT i.2 m).mono (aE (uD om) (uD (b:=389+395*(d+1)) (a:=384) om))).scaleL c
theorem VF(c:(∀d∈E.2.1,vU d.2)/\vU E.2.2)(e:o7 [E]=false):vW (E.2.2::E.2.1.map Prod.snd)<=P2 1648:=by
 obtain⟨_,_,_,_⟩:=GO e;refine aE (CJ λd b=> ?_) (uD (by rw[bH,aF];omega));rcases aS.1 b with rfl |b
 .exact c.2
 .obtain⟨f,g,rfl⟩:=bJ.1 b;exact c.1 f g
theorem StQ.form(f:StQ c d i k)(b:(∀g∈E.2.1,vU g.2)/\vU E.2.2)(e:o7 [E]=false)(h:yH (FA E) c=true)(j:O.c=mW (FA E))(l:O.us=[]):StQ c (d+1) i (k++ [O]):=
 f.add (vW (E.2.2::E.2.1.map Prod.snd)) (tD _) (VF b e) (by rw[l];intro _ m;cases m) λ_ n _=>by
  rw[j];exact VG n b e h
def CV(r:RwE):List RE:=r.2.2.1.1::r.2.2.1.2::r.2.2.2.map Prod.snd
def ES(v:VrE):List RE:=[v.2.2.1,v.2.2.2.1]
def wL(p:PbE):List RE:=p.2.1.flatMap CV++p.2.2.flatMap ES
def DigP(p:PbE):Prop:=∀e∈wL p,vU e
theorem xM{c d:Type}{f:c->List d}{k:Nat}:∀{l:List c},(∀b∈l,(f b).length<=k)->(l.flatMap f).length<=l.length*k
 | [],_=>sm
 |b::l,h=>by
  rw[iQ,aB,bH,bX,fW];have:=h b aT;have:=xM (f:=f) (k:=k) (l:=l) λe g=>h e (aN _ g)
  omega
theorem aa8(k:RQ L)(h:DigP L):vW (wL L)<=P2 748800/\∀c∈wL L,Lim (vW (wL L)) (P2 384) (pX c):=by
 obtain⟨_,_,i,l⟩:=k;have j:∀c∈wL L,mH c<=6:=λc b=>by
  unfold wL at b;rcases aW.1 b with b |b
  .obtain⟨d,e,b⟩:=dL.1 b;obtain⟨f,g,m,n⟩:=i d e;unfold CV at b;rcases aS.1 b with rfl |b
   .exact f
   .rcases aS.1 b with rfl |b
    .exact g
    .obtain⟨p,q,rfl⟩:=bJ.1 b;exact n p q
  .obtain⟨r,s,b⟩:=dL.1 b;obtain⟨f,g,m⟩:=l r s;unfold ES at b;simp only[aS,bI,or_false]at b;rcases b with rfl |rfl
   .exact f
   .exact g
 have:(wL L).length<=2340:=by
  unfold wL;rw[aB];have a:=xM (f:=CV) (k:=32) (l:=L.2.1) λd e=>by
   have:=(i d e).2.2.1;unfold CV;simp only[bH,aF];omega
  have:=xM (f:=ES) (k:=2) (l:=L.2.2) λd e=>by unfold ES;simp
  omega
 refine⟨aE (TH λc b=>⟨h c b,j c b⟩) (uD om),λc b=>Lim.rat b (h c b) (j c b)⟩
theorem UQ{c:SpR}{d:Bool}(b:R∈oT c d j):R.2.1=mkV j/\(R.2.2=c.2.2.1∨R.2.2=c.2.2.2):=by
 unfold oT at b;split at b
 .rw[aC.1 b];exact⟨rfl,.inl rfl⟩
 .rcases aW.1 b with b |b
  .split at b
   .rw[aC.1 b];exact⟨rfl,.inl rfl⟩
   .cases b
  .split at b
   .rw[aC.1 b];exact⟨rfl,.inr rfl⟩
   .cases b
theorem StQ.start(v:RQ L)(s:DigP L):StQ L.2.2.length 0 (rJ (pP L)) []:=by
 obtain⟨D,k⟩:=aa8 v s;refine⟨⟨vW (wL L),tD _,D,λ_ b=> ?_⟩,λd s=>by cases s⟩;rw[eT,cF]at b;have x:(pP L).2.length=L.2.2.length:=by unfold pP;rw[aF]
 have l:P2 384<=P2 (389+395*0):=uD om;have E:30*P2 384<=P2 (389+395*0):=b389;unfold rJ at b;rcases aW.1 b with b |b
 .unfold BG at b;obtain⟨g,h,b⟩:=dL.1 b;have t:=fU h;unfold pP at t;obtain⟨F,I,J⟩:=bJ.1 t;subst J;clear h t;obtain⟨g,h⟩:=ex F;subst h;have h:=I;obtain⟨m,c⟩:=UQ b;have j:∀i∈CV g,i∈wL L:=λi n=>cO _ (dL.2 ⟨g,h,n⟩)
  have y:∀f∈ltV (pP L).2.length (LA g).2,f.1<(L.2.2.length:Int)/\Lim (vW (wL L)) (P2 384) f.2:=λf e=>by
   unfold ltV at e;obtain⟨z,A⟩:=dV.1 e;rw[x]at A;simp only[hQ,decide_eq_false_iff_not]at A;unfold LA sY at z;obtain⟨i,n,rfl⟩:=bJ.1 z;exact⟨om,k _ (j _ (by unfold CV;exact aN _ (aN _ (bJ.2 ⟨i,n,rfl⟩))))⟩
  have K:(ltV (pP L).2.length (LA g).2).length<=30:=by
   unfold ltV;refine aE (j9 _ _) ?_;unfold LA;rw[uG];exact(v.2.2.1 g h).2.2.1
  rw[m];refine⟨uK.mk λf e=>(y f e).1,?_,?_⟩
  .rw[m];exactλf e=>(Lim.mkV (λC r=>(y C r).2) f e).mono (aE (aJ _ K) E)
  .rcases c with c |c
   .rw[c];exact(k _ (j g.2.2.1.1 (by unfold CV;simp))).mono l
   .rw[c];exact(k _ (j g.2.2.1.2 (by unfold CV;simp))).mono l
 .unfold BH at b;obtain⟨p,q,b⟩:=dL.1 b;have q:=gO.1 q;rw[x]at q;obtain⟨m,c⟩:=UQ b;have M:(pP L).2.getD p vrD=EX L.2.2[p]:=by
   unfold pP;rw[aO,aX,aA q];rfl
  rw[M]at c;have j:∀i∈ES L.2.2[p],i∈wL L:=λi n=>dF _ (dL.2 ⟨_,dC q,n⟩)
  rw[m];refine⟨uK.mk λf e=> ?_,?_,?_⟩
  .unfold F9 at e;rw[aC.1 e];show(p:Int)<_;omega
  .rw[m];refineλf e=>(Lim.mkV (D:=vW (wL L)) (A:=P2 384) (λC r=> ?_) f e).mono ?_
   .unfold F9 at r;rw[aC.1 r];exact Lim.of (Nat.one_dvd _) (tD _) (wV _)
   .unfold F9;rw[fO,fW];exact l
  .rcases c with c |c
   .rw[c];exact(k _ (j _ (by unfold ES;simp))).mono l
   .rw[c];exact(k _ (j L.2.2[p].2.2.2.1 (by unfold ES;simp))).mono l
def NeI(c:Int->Int)(ns:List (List Int)):Prop:=∀l∈ns,l.Pairwise (· < ·)/\∀x∈l,0<=x/\x<(ns.length:Int)/\c x≠0
theorem YZ:∀{l:List Int} {a b:Int},l.Pairwise (· < ·)->a<=b->(∀c∈l,a<=c/\c<b)->(l.length:Int)<=b - a
 | [],a,b,_,ha,_=>by simp;omega
 |c::l,a,b,hu,ha,h=>by
  have:=h c aT;have d:=dD.1 hu;have:=YZ (l:=l) (a:=c+1) (b:=b) d.2 om λe f=>⟨by have:=d.1 e f;omega,(h e (aN _ f)).2⟩
  simp only[bH];omega
theorem NeI.len(b:NeI p m)(c:T∈m):T.length<=m.length:=by
 have:=YZ (a:=0) (b T c).1 om λd e=>⟨((b T c).2 d e).1,((b T c).2 d e).2.1⟩
 omega
theorem NeI.congr{c:Int->Int}(d:NeI p m)(i:∀b,0<=b->b<(m.length:Int)->p b≠0->c b≠0):NeI c m:=λe f=>⟨(d e f).1,λb j=>by
 obtain⟨g,h,k⟩:=(d e f).2 b j;exact⟨g,h,i b g h k⟩⟩
theorem NeI.add(g:NeI p m)(i:T.Pairwise (· < ·))(j:∀b∈T,0<=b/\b<=(m.length:Int)/\p b≠0):NeI p (m++ [T]):=λh c=>by
 rw[aB,fO]
 rcases aW.1 c with c |c
 .exact⟨(g h c).1,λb d=>by
   obtain⟨e,k,f⟩:=(g h c).2 b d;exact⟨e,om,f⟩⟩
 .rw[aC.1 c]
  exact⟨i,λb d=>by
   obtain⟨e,k,f⟩:=j b d;exact⟨e,om,f⟩⟩
theorem NeI.mem(e:NeI p m)(d:Nat)(b:D∈m.getD d []):0<=D/\D<(m.length:Int)/\p D≠0:=by
 rw[aO]at b
 cases c:m[d]? with
 |none=>rw [c]at b;cases b
 |some f=>rw [c]at b;exact(e f (aM c)).2 D b
theorem NeI.us(c:NeI p m)(b:D∈usN m j):0<=D/\D<(m.length:Int)/\p D≠0:=by
 unfold usN at b;obtain⟨_, -,b⟩:=dL.1 b;exact c.mem _ b
theorem NeI.sp(c:NeI p m){d e:Int}(b:WG m d e D):0<=D/\D<(m.length:Int)/\p D≠0:=by
 unfold WG at b;rcases aW.1 b with b |b
 .exact c.mem _ b
 .exact c.mem _ b
theorem NeI.usl(b:NeI p m)(c:j.length<=30):(usN m j).length<=30*m.length:=by
 unfold usN;refine aE (xM (k:=m.length) λd _=> ?_) (aJ _ c);rw[aO]
 cases e:m[d.1.toNat]? with
 |none=>exact zl
 |some f=>exact b.len (aM e)
theorem NeI.start(b:Int->Int)(c:Nat):NeI b (List.replicate c []):=λ_ e=>by
 rw[List.eq_of_mem_replicate e];exact⟨List.Pairwise.nil,λ_ f=>by cases f⟩
theorem ZK(b:RQ L):(rJ (pP L)).length<=240:=by
 unfold rJ;rw[aB];have a:(BG (pP L).2.length (pP L).1 (pP L).1.length).length<=70*2:=by
  unfold BG;refine aE (xM (k:=2) λc _=>xU _ _ _) (aJ _ ?_);rw[bN];unfold pP;rw[aF];exact b.1
 have:(BH (pP L).2 (pP L).2.length).length<=50*2:=by
  unfold BH;refine aE (xM (k:=2) λc _=>xU _ _ _) (aJ _ ?_);rw[List.length_range];unfold pP;rw[aF];exact b.2.1
 omega
theorem xD(y:Value)(z:List RE)(w:World)(h:SLQ w y z):
  Calls prog 27 #[y] w λc T=>∃U:Int,c= .returned U/\Ext w T:=by
 obtain⟨_,i,_,A,rfl,_,B⟩:=h.at;have V:=a8 A;have X:=a8 B;clear A B h;go_enter func27,ntmps27;go_wp2_with fail;go_loopw [3,4] (λC p wr=>∃(b:Nat) (D:Int),b<=i/\p= .int .i64 (b:Int)/\C= .int .i64 D/\Ext w wr) (λC p _=>((i:Int) - intOf p).toNat)
 case atStart=>exact ⟨0,0,zl,rfl,rfl,rE⟩
 case round=>
  obtain⟨b,D,Y,rfl,rfl,j⟩:=hrel;rcases aI Y with q |q
  .subst q;have Z:¬((b:Int)<b):=om;go_wp2;go_ret;exact⟨⟨_,rfl⟩,j⟩
  .have Z:(b:Int)<i:=om;obtain⟨⟨E,k,l⟩,F⟩:∃a0,z[b]? =some a0:=⟨_,aA (by rw[<-V.out];exact q)⟩;obtain⟨_,_,rfl,_,_,_,_,_,_,_, -, -,r⟩:=X.out b _ F;obtain⟨_,_,_,a1⟩:=r wr j;have HC:=a8 r;obtain⟨⟨_,_,h,I,J⟩,K,L,M⟩:=a1
   cases h
   have m:=a8 (aD I (aD J (aD K (aD L M))));clear F r I J K L M;obtain⟨a2,N⟩:=ex (sF k);obtain⟨a3,O⟩:=ex (sF l);have P:=a8 (aD N O);obtain⟨d,R⟩:=ex (b+1);have:(b:Int)+1=(d:Int):=om;have s:d<=i:=om;have t:=a8 R;clear N O R;go_wp2_with fail;refine(wJ _ k wr m.out.1 m.out.2.2.1).mono ?_;rintro c n ⟨rfl,u⟩;rw[<-P.out.1];obtain⟨_,_,_, -⟩:=HC.out n (j.trans u);have e:=j.trans u
   cases a2 with
   |true=>
    go_wp2_with fail;refine(wJ _ l n (m.out.2.1.ext u) m.out.2.2.2.1).mono ?_;rintro c S ⟨rfl,v⟩;rw[<-P.out.2];obtain⟨a4,a5,a6,f⟩:=HC.out S (e.trans v);have g:=a8 f;clear f
    cases a3 with
    |true=>
     go_wp2;go_roundw
     case rel=>exact ⟨d,_,s,rfl,rfl,e.trans v⟩
     case measure=>have:=t.out;simp[intOf];omega
    |false=>
     go_wp2_with fail;refine(oO _ E k l S g.out.1 g.out.2.2.2).mono ?_;rintro c a7 ⟨rfl,x⟩;go_wp2;go_roundw
     case rel=>exact ⟨d,_,s,rfl,rfl,(e.trans v).trans x⟩
     case measure=>have:=t.out;simp[intOf];omega
   |false=>
    obtain⟨a4,a5,a6,f⟩:=HC.out n e;have g:=a8 f;clear f;go_wp2_with fail;refine(oO _ E k l n g.out.1 g.out.2.2.2).mono ?_;rintro c a7 ⟨rfl,x⟩;go_wp2;go_roundw
    case rel=>exact ⟨d,_,s,rfl,rfl,e.trans x⟩
    case measure=>have:=t.out;simp[intOf];omega
theorem AA(s:Value)(l:List TE)(w:World)(t:TLE w s l)(D:l.length*64<=140737488355328):
  Calls prog 28 #[s] w λc E=>∃g:Int,c= .returned g/\Ext w E:=by
 obtain⟨_,j,_,k,rfl,_,v⟩:=t.at;rw[<-k]at D;have HN:=a8 k;have F:=a8 v;clear k v t;go_enter func28,ntmps28;go_wp2_with fail;go_loopw [3,4] (λI m wr=>∃(i:Nat) (d:Option Addr) (e:Nat),i<=j/\m= .int .i64 (i:Int)/\I= .slice d i e/\Hid (OL 37 3 w (λ_ u c=>o9 w u c) wr (d,i,e) ((l.map Prod.snd).take i))/\Ext w wr) (λ_ m _=>((j:Int) - intOf m).toNat)
 case atStart=>exact ⟨0,none,0,zl,rfl,rfl,a8 (OL.nil _ _ _ _ _),rE⟩
 case round=>
  obtain⟨i,d,e,J,rfl,rfl,hS,hE0⟩:=hrel;rcases aI J with n |n
  .subst n;have K:¬((i:Int)<i):=om;have x:SLQ wr (d,i,e) (l.map Prod.snd):=Qb6;have L:=a8 x;clear x;go_wp2_with fail;refine(xD _ (l.map Prod.snd) wr L.out).mono ?_;rintro c _ ⟨g,rfl,M⟩;go_wp2;go_ret;exact⟨g,rfl,hE0.trans M⟩
  .have K:(i:Int)<j:=om;obtain⟨⟨_,N⟩,p⟩:∃O,l[i]? =some O:=⟨_,aA (by rw[<-HN.out];exact n)⟩;obtain⟨_,_,rfl,b,a1,n1,c1,a2,n2,c2, -, -,z,q⟩:=F.out i _ p;have f:=GB z;have P:=f wr hE0 0 _ rfl;have:=f wr hE0 1 _ rfl;have:=f wr hE0 2 _ rfl;simp only[bZ]at P;obtain⟨vs,A,r,B⟩:=hS.out;have R:vs.length=i:=by rw[r,aP,aF,<-HN.out];omega
   have C:(l.map Prod.snd).take (i+1)=(l.map Prod.snd).take i++ [N]:=by rw[cE,aX,p];rfl
   subst R;have HTK:=a8 C;have HLS:=a8 A;have HV:=a8 (aD r B);have HRX:=a8 q;have:=hE0.size;simp only at q;clear z p A r B C f q hS;go_wp2_with (first
    | (at_builtin;go_loud (refine nR rfl _ _ 41 rfl 37 3 56 w underlying41 kr kr om _ vs rfl (HLS.out.ext (rE.alloc _)) ⟨wr.heap.size,0,none⟩ #[b,(a1,n1,c1),(a2,n2,c2)] rfl rfl (vP _ _ _) kr (by first |omega | (unfold maxLen;omega)) om (by rw[nD];omega) ?_);intro g' cap2' _ hls7 hg7 _ _)
    |fail)
   exact IZ4
structure OpE where
 k:Int
 s:Int
 c:CE
 us:List TE
 l0:Int
 l1:Int
 l2:Int
 l3:Int
 xs:List RE
def OpH(w:World)(v:Value)(o:OpE):Prop:=∃a n cp b a1 n1 c1 a2 n2 c2 ua un uc xa xn xc,v= .agg #[o.k,o.s,o.c.1,.slice a n cp,.bool b,.slice a1 n1 c1,.slice a2 n2 c2,.slice ua un uc,o.l0,o.l1,o.l2,o.l3,.slice xa xn xc]/\
 CnE w (.agg #[o.c.1,.slice a n cp,.bool b,.slice a1 n1 c1,.slice a2 n2 c2]) o.c/\TLE w (.slice ua un uc) o.us/\SLQ w (.slice xa xn xc) o.xs/\o.c.2.1.length*64<=140737488355328/\o.us.length*64<=140737488355328
theorem OpH.ext{w c:World}{d:Value}{o:OpE}(e:OpH w d o)(b:Ext w c):OpH c d o:=by
 obtain⟨a,f,g,h,i,j,k,l,m,n,p,q,r,s,t,u,v,x,y,z,A,B⟩:=e;exact⟨a,f,g,h,i,j,k,l,m,n,p,q,r,s,t,u,v,x.ext b,y.ext b,z.ext b,A,B⟩
def OpL(w:World)(v:Value)(l:List OpE):Prop:=SL 13 OpH w v l
def MC(o:OpE):Bool:=o7 [o.c] || nU o.us || oU o.xs
theorem JX(L:Value)(o:OpE)(w:World)(X:OpH w L o):
  Calls prog 8 #[L] w λe w'=>∃z:Int,e= .returned z/\Ext w w':=by
 obtain⟨a,t,u,j,l,m,n,p,q,r,y,A,B,C,D,E,rfl,h2,M,N,O,P⟩:=X;obtain⟨F,R,v,k,Y⟩:=kR w #[o.k,o.s,o.c.1,(a,t,u),j,(l,m,n),(p,q,r),(y,A,B),o.l0,o.l1,o.l2,o.l3,(C,D,E)] 43;have x:=a8 (aD (h2.ext v) (aD (M.ext v) (aD (N.ext v) (aD O P))));have Z:=a8 v;have S:Hid (TLE F (a,t,u) o.c.2.1/\o9 F (.agg #[j,(l,m,n),(p,q,r)]) o.c.2.2):=a8 (by
  obtain⟨_,_,_,_,_,_,_,_,_,_,a0,a1,a2⟩:=x.out.1
  cases a0
  exact⟨a1,a2⟩)
 have HC:Hid (∀c,Ext F c->(c.cell? (w,3)=some (.slice a t u)/\c.cell? (w,4)=some (.bool j)/\c.cell? (w,5)=some (.slice l m n)/\c.cell? (w,6)=some (.slice p q r)/\c.cell? (w,7)=some (.slice y A B)/\c.cell? (w,12)=some (.slice C D E))):=a8 λc s=>⟨(k.ext s).cell 3,(k.ext s).cell 4,(k.ext s).cell 5,(k.ext s).cell 6,(k.ext s).cell 7,(k.ext s).cell 12⟩
 clear h2 M N O P v k Y;go_enter func8,ntmps8;go_upto_region 1 with(fail);rw[<-R];clear R;apply NG [kN _,kN _,kN (.slice a t u),tB,kN _,kN (y,A,B),tB,tB,kN _,kN _,kN (.agg #[.bool j,(l,m,n),(p,q,r)]),nL (λT c=>SLQ c T [o.c.2.2]) (λT a j a3 I=>I.ext a3),tB,tB,kN _,kN (C,D,E),tB,tB,tB] ?st ?en hF kr rfl kr
 case st=>
  refine⟨oR,oR,oR,?_,oR,oR,?_,?_,oR,oR,oR,?_,?_,?_,oR,oR,?_,?_,?_,trivial⟩
  .intro g b c d hp h i;have f:b 2=(a,t,u):=hp.1 rfl trivial;refine oC (P:=prog) #[b 2] func28 rfl rfl ?_;rw[f];refine(AA _ _ c (S.out.1.ext d) x.out.2.2.2.1).mono ?_;exact tF8
  .intro g b c d hp h i;have f:b 5=(y,A,B):=hp.1 rfl trivial;refine oC (P:=prog) #[b 5] func28 rfl rfl ?_;rw[f];refine(AA _ _ c (x.out.2.1.ext d) x.out.2.2.2.2).mono ?_;exact tF8
  .intro g b c d hp h i;obtain⟨J,K⟩:IsI (b 3):=hp.1 rfl trivial;obtain⟨U,V⟩:IsI (b 6):=hp.2.1 rfl trivial;exact Tj6
  .intro g b c d hp h i;have f:b 10= .agg #[j,(l,m,n),(p,q,r)]:=hp.1 rfl trivial;change kM _ _ _ b c Ext _;exact lH (P:=prog) 41 37 1 3 _ [.agg #[j,(l,m,n),(p,q,r)]] rfl rfl underlying41 kr kr (by simp only[Act.eval];exact congrArg (λz=> [(0,z)]) f) rfl om om om (by simp only[aS,bI,or_false,forall_eq_or_imp,forall_eq];first |rfl |exact ⟨rfl,rfl⟩) (λw' I a4=>TU a4 (S.out.2.ext (d.trans I)))
  .intro g b c d hp h i;have f:SLQ c (b 11) [o.c.2.2]:=hp.1 rfl trivial;refine oC (P:=prog) #[b 11] func27 rfl rfl ?_;refine(xD _ _ c f).mono ?_;exact tF8
  .intro g b c d hp h i;obtain⟨J,K⟩:IsI (b 7):=hp.1 rfl trivial;obtain⟨U,V⟩:IsI (b 12):=hp.2.1 rfl trivial;exact Tj6
  .intro g b c d hp h i;have f:b 15=(C,D,E):=hp.1 rfl trivial;refine oC (P:=prog) #[b 15] func27 rfl rfl ?_;rw[f];refine(xD _ _ c (x.out.2.2.1.ext d)).mono ?_;exact tF8
  .intro g b c d hp h i;obtain⟨J,K⟩:IsI (b 13):=hp.1 rfl trivial;obtain⟨U,V⟩:IsI (b 16):=hp.2.1 rfl trivial;exact Tj6
  .intro g b c d hp h i;obtain⟨J,K⟩:IsI (b 17):=hp.1 rfl trivial;exact Tj6
 case en=>
  intro b _ d hp;obtain⟨z,a5⟩:IsI (b 18):=hp.2.2.2.2.2.2.2.2.2.2.2.2.2.2.2.2.2.2.1 trivial;simp only[a5];clear hp;go_wp2;go_ret;exact⟨z,rfl,Z.out.trans d⟩
theorem MD(n:Value)(o:OpE)(w:World)(N:OpH w n o):
  Calls prog 9 #[n] w λd O=>d= .returned (.bool (MC o))/\Ext w O:=by
 obtain⟨a,p,q,r,s,t,u,v,x,y,P,R,S,T,U,V,rfl,z,A,B,X,Y⟩:=N;obtain⟨Z,C,D,f,a0⟩:=kR w #[o.k,o.s,o.c.1,(a,p,q),r,(s,t,u),(v,x,y),(P,R,S),o.l0,o.l1,o.l2,o.l3,(T,U,V)] 43;obtain⟨a1,E,g,F,a2⟩:=kR Z #[o.c.1,(a,p,q),r,(s,t,u),(v,x,y)] 39;have c:=D.trans g;have h:=a8 (aD (z.ext c) (aD (A.ext c) (B.ext c)));have I:=a8 c;have a3:=a8 (XC F h.out.1);have J:=a8 (f.ext g);clear z A B X Y D g c F;obtain⟨a4,a5,a6,a7,a9,-⟩:=f.cl [2,3,4,5,6];clear a0 a2 f;have e:Hid (MC o=(o7 [o.c] || nU o.us || oU o.xs)):=a8 rfl;obtain⟨b0,i⟩:=ex (o7 [o.c]);obtain⟨b1,j⟩:=ex (nU o.us);obtain⟨_,k⟩:=ex (oU o.xs);rw[<-i,<-j,<-k]at e;have l:=a8 (aD i (aD j k));clear i j k;go_enter func9,ntmps9;go_upto_region 1 with(fail);rw[<-C];clear C;go_wp2_with fail;rw[<-E];refine(MB _ [o.c] a1 a3.out sm).mono ?_;rintro d b2 ⟨rfl,b⟩;rw[<-l.out.1];have K:=J.out.ext b;obtain⟨b3,b4,-⟩:=K.cl [7,12];clear a4 a5 a6 a7 a9 E K
 cases b0 with
 |true=>
  go_wp2;go_ret;exact⟨by rw[e.out]<;>rfl,I.out.trans b⟩
 |false=>
  go_wp2_with fail;refine(zU _ o.us b2 (h.out.2.1.ext b)).mono ?_;rintro d b5 ⟨rfl,m⟩;rw[<-l.out.2.1];have L:=(J.out.ext b).ext m;have:=L.cell 12;have M:=(I.out.trans b).trans m;have b6:=a8 ((h.out.2.2.ext b).ext m);clear b3 b4 L
  cases b1 with
  |true=>
   go_wp2;go_ret;exact⟨by rw[e.out]<;>rfl,M⟩
  |false=>
   go_wp2_with fail;refine(vN _ o.xs b5 b6.out).mono ?_;rintro d _ ⟨rfl,b7⟩;rw[<-l.out.2.2];go_wp2;go_ret;exact⟨by rw[e.out]<;>rfl,M.trans b7⟩
theorem lawA:Keyed prog 3:=int_keyed underlying3
theorem ae1(w:World):(zeroValue 3).run prog w= .ok (0:Int) w:=kr
def AsM(w:World)(b n:Nat)(c:Int->Int):Prop:=∃D:DataW Unit,w.ownsMap prog 3 (plainElem prog 3) b n D/\IsMap D/\∀x,D.atKey (.int .i64 x) (.lit (.int .i64 0))= .lit (.int .i64 (c x))
theorem AsM.made(w:World):AsM (w.alloc (.map #[] 0)) w 0 (λ_=>0):=⟨.map [],World.ownsMap_made _ _ _ _,isMap_empty,λ_=>rfl⟩
theorem AsM.ext{w:World}(b:AsM w c d p)(e:Ext w g):AsM g c d p:=by
 obtain⟨f,h,i,j⟩:=b;exact⟨f,h.kept e sm,i,j⟩
theorem AsM.kp{w:World}(f:AsM w c d p)(h:Kp B w g):AsM g c d p:=by
 obtain⟨i,⟨b,e,j,k,l,m⟩,n,q⟩:=f;exact⟨i,⟨b,e,h.maps c b e j,k,l,m⟩,n,q⟩
theorem AsM.mono{w:World}{b c d:Nat}{e:Int->Int}(f:AsM w b c e)(g:c<=d):AsM w b d e:=by
 obtain⟨h,i,j,k⟩:=f;exact⟨h,i.mono g,j,k⟩
theorem AsM.is{w:World}(f:AsM w c d p):∃b e,w.heap[c]? =some (Obj.map b e):=by
 obtain⟨_,⟨b,e,g, -⟩, -⟩:=f;exact⟨b,e,g⟩
theorem wfA{z:Int}(b: -9223372036854775808<=z)(c:z<=9223372036854775807):(Lit.int .i64 z).wf=true:=WalkArith.wf_i64 om
theorem AsM.look{w:World}(e:AsM w c d p)(f:(Lit.int .i64 D).wf=true):(Instr.lookup 31 (.map (some c)) D false).run prog w= .ok (p D:Int) w:=by
 obtain⟨_,g,_,h⟩:=e;obtain⟨_,i,b, -⟩:=g.lookup_int lawA underlying31 underlying3 (ae1 w) (keyOf_int_mk underlying3 f);rw[h]at b
 cases b
 exact i
section
variable (w:World) {ops:Array Oper} {rest:List Oper} {o:Oper} {a:Act} {Q:Exit->Act->World->Prop}
theorem FE(j:o.guard=none)(b c:Operand)(k:o.op=Op.lookup 31 b c false)(d f:Nat)(g:Int->Int)(l:a.eval b= .map (some d))(m:AsM w d f g)(e:Int)(n:a.eval c=e)(p:(Lit.int .i64 e).wf=true)(h:Int)(q:g e=h)
  (r:wpList prog ops Q rest (a.put o.dst h) w):wpList prog ops Q (o::rest) a w:=by
 obtain⟨s,t,_,u⟩:=m;refine wpList_lookup_own_int w j b c _ k 3 3 .i64 lawA underlying31 underlying3 (ae1 w) d f s l t _ _ n (keyOf_int_mk underlying3 p) ?_;intro _ i _;rw[u]at i
 cases i
 subst q;exact r
theorem J3(p:o.guard=none)(h i j:Operand)(q:o.op=Op.mapUpdate 31 h i j)(c f:Nat)(k:Int->Int)(r:a.eval h= .map (some c))(s:AsM w c f k)(t:f<maxLen)(d g:Int)(u:a.eval i=d)(v:a.eval j=g)(x:(Lit.int .i64 d).wf=true)(y:(Lit.int .i64 g).wf=true)
  (z:∀e,AsM e c (f+1) (λb=>if b=d then g else k b)->Chg c w e->wpList prog ops Q rest (a.put o.dst undef) e):wpList prog ops Q (o::rest) a w:=by
 obtain⟨m,A,n,B⟩:=s;refine wpList_mapUpdate_own w p h i j _ q 3 3 lawA underlying31 _ c f m r A t _ _ _ u v (keyOf_int_mk underlying3 x) _ [] (plainElem_int underlying3 y) ?_;intro e C D;refine z e ⟨_,C,n.put _ _,λb=> ?_⟩ D;show(m.put _ _).atKey _ _= .lit (.int .i64 (if b=d then g else k b));by_cases l:b=d
 .subst l;rw[if_pos rfl];exact atKey_put_same (k:= .int .i64 b) n trivial _ _
 .rw[if_neg l,atKey_put_other (by intro E;cases E;exact l rfl)];exact B b
theorem J1(l:o.guard=none)(f g:Operand)(m:o.op=Op.call {callee:=Callee.builtin Builtin.delete,args:=#[f,g],argTypes:=#[31,3]})(c h:Nat)(i:Int->Int)(n:a.eval f= .map (some c))(p:AsM w c h i)(d:Int)(q:a.eval g=d)(r:(Lit.int .i64 d).wf=true)
  (s:∀e,AsM e c h (λb=>if b=d then 0 else i b)->Chg c w e->wpList prog ops Q rest (a.put o.dst (.tuple #[])) e):wpList prog ops Q (o::rest) a w:=by
 obtain⟨k,t,u,v⟩:=p;refine wpList_delete_own w l f g _ _ m 3 lawA underlying31 _ c h k n t _ _ q (keyOf_int_mk underlying3 r) ?_;intro e x y;refine s e ⟨_,x,u.del _,λb=> ?_⟩ y.grown;show(k.del _).atKey _ _= .lit (.int .i64 (if b=d then 0 else i b));by_cases j:b=d
 .subst j;rw[if_pos rfl];exact atKey_del_same (k:= .int .i64 b) _
 .rw[if_neg j,atKey_del_other (by intro z;cases z;exact j rfl)];exact v b
end
def zD(w w':World):Prop:=∀t g cs,LgT t=false->Bx t w g cs->Bx t w' g cs
theorem zD.trans{a:World}(f:zD a g)(h:zD g N):zD a N:=λb c d e i=>h b c d e (f b c d e i)
theorem Ext.keepL{w:World}(b:Ext w g):zD w g:=λ_ _ _ _ c=>c.ext b
theorem zD.keepT{w:World}(b:zD w g):rI w g:=λc d e f h=>b c d e (by rcases f with rfl |rfl<;>decide) h
theorem xB{size:Nat}{w:World}(f:w.ownsRow d c size r e n)(j:zD w g)(k:LgT c=false):g.ownsRow d c size r e n:=by
 refine⟨f.1,?_⟩;rcases f.2 with b |⟨h,l,i,m,b,p,q⟩
 .exact .inl b
 .exact .inr ⟨h,l,i,m,b,j c h i k p,q⟩
theorem LgF.keepL{w:World}(e:LgF c d w t A x j i)(b:zD w g):LgF c d g t A x j i:=
 ⟨xB e.nm b de,xB e.bs b de,e.ob.keepT b.keepT,by
  obtain⟨h,f,k,l⟩:=e.cs;exact⟨h,⟨f.1,xB f.2 b de⟩,k,λm n p a q=>(l m n p a q).keepT b.keepT⟩⟩
theorem FI{w:World}(i:Chg c w g)(e:∃f h,w.heap[c]? =some (Obj.map f h))(b:Bx I w d C):Bx I g d C:=b.chg i (by
 rintro rfl;obtain⟨f,h,e⟩:=e;unfold Bx at b;rw[e]at b
 cases b)
theorem yF{w:World}(b:Chg c w g)(d:∃e f,w.heap[c]? =some (Obj.map e f)):zD w g:=λ_ _ _ _ h=>FI b d h
theorem yN{size:Nat}{w:World}(f:w.ownsRow d e size r v n)(h:Chg c w g)(i:∃j k,w.heap[c]? =some (Obj.map j k)):g.ownsRow d e size r v n:=by
 refine⟨f.1,?_⟩;rcases f.2 with b |⟨l,m,p,q,b,s,t⟩
 .exact .inl b
 .exact .inr ⟨l,m,p,q,b,FI h i s,t⟩
theorem nX.chgM{w:World}(s:nX c d w e t k m)(b:Chg v w g)(f:∃u x,w.heap[v]? =some (Obj.map u x)):nX c d g e t k m:=by
 obtain⟨y,z,A,B,C,D,E,F,I,J,K,L⟩:=s;refine⟨y,z,A,B,C,D,FI b f E,F,I,J,?_,?_⟩
 .obtain⟨i,h,j,l⟩:=K;exact⟨i,⟨h.1,yN h.2 b f⟩,j,λn p q a r=>(l n p q a r).keepT (yF b f).keepT⟩
 .obtain⟨i,h,j,l⟩:=L;exact⟨i,yN h b f,j,λn p q a r=>yN (l n p q a r) b f⟩
theorem TO.tight{w:World}(k:TO c e w r j)(l:∀b∈j,szQ b.2<=d):TO c d w r j:=by
 obtain⟨m,n,p,g⟩:=k;exact⟨m,n,p,λh i b a f=>⟨(g h i b a f).1,(g h i b a f).2.1,l b (aM f)⟩⟩
theorem CnO.tight{d g c:Nat}{w:World}{e:Value}{b:CR}(h:CnO d g w e b)(f:(∀i∈b.2.1,szQ i.2<=c)/\szQ b.2.2<=c):CnO d c w e b:=by
 obtain⟨a,j,k,l,m,n,p,q,r,s,t,u,v, -⟩:=h;exact⟨a,j,k,l,m,n,p,q,r,s,t,u.tight f.1,v,f.2⟩
theorem nX.tight{f l b g:Nat}{w:World}{h:LgS}{c:List DR}{i:List (List Int)}(m:nX f l w g h c i)(n:∀d∈c,((∀e∈d.c.2.1,szQ e.2<=b)/\szQ d.c.2.2<=b)/\∀e∈d.us,szQ e.2<=b):nX f b w g h c i:=by
 obtain⟨p,q,r,s,t,u,v,x,y,z,⟨A,B,C,D⟩,E⟩:=m;refine⟨p,q,r,s,t,u,v,x,y,z,⟨A,B,C,λF I j a k=> ?_⟩,E⟩;obtain⟨J,K,L,M,N,O,P,R,S,T,U,V,X,Y,Z,a0⟩:=D F I j a k;have:=n j (aM k);exact⟨J,K,L,M,N,O,P,R,S,T,U,V,X,Y,Z.tight this.1,a0.tight this.2⟩
theorem TLE.digs{w:World}(c:TLE w r z):∀b∈z,vU b.2:=λb d=>by
 obtain⟨e,f⟩:=gN d;obtain⟨_,_,_,_,_,_,g⟩:=c.opn;obtain⟨_,_, -,_, -, -,h⟩:=g e b f;obtain⟨_,_,_,_,_,_,_, -,i⟩:=h;exact i.2
theorem CnE.digs{w:World}{c:Value}{b:CE}(d:CnE w c b):(∀e∈b.2.1,vU e.2)/\vU b.2.2:=by
 obtain⟨a,_,_,_,_,_,_,_,_,_,_,f,g⟩:=d;exact⟨f.digs,g.2⟩
theorem PbH.digs{w:World}{n:Value}{l:PbE}(c:PbH w n l):DigP l:=by
 obtain⟨_,_,_,_,_,_,_,p,q⟩:=c;intro _ b;unfold wL at b;rcases aW.1 b with b |b
 .obtain⟨d,e,b⟩:=dL.1 b;obtain⟨f,g⟩:=gN e;obtain⟨r,s,t,u,v,x,h⟩:=SL.opn p;obtain⟨y,z, -,A, -, -,i⟩:=h f d g;obtain⟨B,c,_,_,_, -,j,k,m⟩:=i;unfold CV at b;rcases aS.1 b with rfl |b
  .exact j.2
  .rcases aS.1 b with rfl |b
   .exact k.2
   .obtain⟨C,D,rfl⟩:=bJ.1 b;exact m.digs C D
 .obtain⟨d,e,b⟩:=dL.1 b;obtain⟨f,g⟩:=gN e;obtain⟨r,s,t,u,v,x,h⟩:=SL.opn q;obtain⟨y,z, -,A, -, -,i⟩:=h f d g;obtain⟨B,c,_, -,j,k,m⟩:=i;unfold ES at b;simp only[aS,bI,or_false]at b;rcases b with rfl |rfl
  .exact j.2
  .exact k.2
theorem FW.vnn{w:World}{b:List VrE}(d:FW w r b)(f:∀c∈b,Y0 c):VnN 6 w r (b.map λc=>(c.1,EX c)):=SL.mapL d λ_ g h i=>by
 obtain⟨b,d,j,k,l,m,n⟩:=i;have e:=f g h;exact⟨b,d,j,k,⟨l.is6 e.1,m.is6 e.2.1⟩,n.is6 e.2.2⟩
def ae2:CE:=(0,[],(false,[],[]))
def XR(cs:List CR)(ds:List DR):Nat->CE
 |0=>ae2
 |m+1=>fmC (mW (nA cs ds m))
def LnX(w:World)(v:Value)(E:CE):Prop:=(v=sE/\E=ae2)∨∃S c,E=fmC c/\CnO S 700000 w v c
theorem LnX.keepT{w c:World}{d:Value}{e:CE}(b:LnX w d e)(f:rI w c):LnX c d e:=by
 rcases b with b |⟨g,h,i,j⟩
 .exact .inl b
 .exact .inr ⟨g,h,i,j.keepT f⟩
theorem LnX.cells{w:World}(b:LnX w r E):∃m a c d e f h i j k l,r= .agg #[.int .i64 m,.slice a c d,.bool e,.slice f h i,.slice j k l]:=by
 rcases b with⟨rfl, -⟩ |⟨_,_, -,a,c,d,e,f,h,i,j,k,l,b, -⟩
 .exact⟨_,_,_,_,_,_,_,_,_,_,_,rfl⟩
 .exact⟨_,a,c,d,e,f,h,i,j,k,l,b⟩
theorem Z2(w:World):TLE w () []:=⟨none,0,rfl,lr,om,.inl rfl⟩
theorem LnX.cnE{w:World}{e:Value}{f:CE}(b:LnX w e f):CnE w e f:=by
 rcases b with⟨rfl,rfl⟩ |⟨_,_,rfl,b⟩
 .exact⟨none,0,0,false,none,0,0,none,0,0,rfl,Z2 w,⟨Z1.raw w,⟨λc d=>(bI (show c∈([]:List Nat)from d)).elim,λc d=>(bI (show c∈([]:List Nat)from d)).elim,zl⟩⟩⟩
 .exact b.cnE lq
theorem VP(d:c<=i.length+k.length):XR i (k++ [O]) c=XR i k c:=by
 cases c with
 |zero=>rfl
 |succ b=>
  show fmC (mW (nA i (k++ [O]) b))=fmC (mW (nA i k b));unfold nA;rw[bY,<-aG,aO,aO,bM (by rw[aB,aF];omega)]
structure LwI (w0:World) (B g gm n t:Nat) (s:LgS) (nm:List ByteArray) (bs:List Bool) (ob:List (Int×Rat)) (cs:List CR) (ds:List DR) (ns:List (List Int)) (c:Int->Int) (w:World):Prop where
 ext:Ext w0 w
 lg:nX B 13000 w g s ds ns
 fr:LgF B 357 w s nm bs ob cs
 map:AsM w gm t c
 st:StQ n t cs ds
 ne:NeI c ns
 no:∀x:Int,(ns.length:Int)<=x->c x=0
 len:ns.length=cs.length+ds.length
 dl:ds.length<=t
theorem LwI.ex{w:World}(b:LwI g c d e v F t A x j i k m p w)(f:Ext w N):LwI g c d e v F t A x j i k m p N:=
 ⟨b.ext.trans f,b.lg.ext f,b.fr.ext f,b.map.ext f,b.st,b.ne,b.no,b.len,b.dl⟩
structure LwG (n t:Nat) (s:LgS) (bs:List Bool) (cs:List CR):Prop where
 n50:n<=50
 nn:s.nn=n
 wn:s.wn=bs.length
 cl:cs.length<=240
 t:t<40
theorem MG:(17179869180:Nat)<=LIM:=lq
theorem yL{w0:World}{gm t:Nat}{b:LgS}{nm:List ByteArray}{bs:List Bool}{ob:List (Int×Rat)}(G:e<=50/\i.length<=240/\t<=40)(f:Nat)(g:Int)(C:g=(f:Int) - 1)(D:f<=m.length)(w:World)(n:nX c 13000 w d b k m)(r:LgF c 357 w b nm bs ob i)(s:StQ e t i k)(u:m.length=i.length+k.length)(E:k.length<=t):
  Calls prog 11 #[(d,0),g] w λl h=>∃p v,l= .returned (.tuple #[p,.bool v])/\LnX h p (XR i k f)/\Ext w h:=by
 obtain⟨x,_,_⟩:=G
 cases f with
 |zero=>
  refine(VR c 13000 d b k m g w n ?_).mono ?_
  .unfold pM;rw[decide_eq_false om];rfl
  .rintro l h ⟨rfl,y⟩;exact⟨_,_,rfl,.inl ⟨rfl,rfl⟩,y⟩
 |succ j=>
  obtain rfl:g=(j:Int):=om;have:(nA i k j).2.1.length<=50:=CP (P:=λq=>q.2.1.length<=50) (λq z=>aE (s.len z) x) zl j;have:=MG;refine(H4 c 13000 700000 d 13000 b i k m j w n ((r.cl om).leP om) lr om u om om om om om om).mono ?_;rintro l h ⟨_,rfl,A,B⟩;exact⟨_,_,rfl,.inr ⟨_,_,rfl,A⟩,B⟩
theorem AZ(e:Int)(u:e=(m.length:Int) - 1)(w:World)(j:nX d 13000 w c t k m)(v:m.length<=1000)(p:∀b∈m,b.length<=1000):
  Calls prog 17 #[(c,0),e] w λh f=>∃g b,h= .returned g/\IL w f g b/\(b=[]∨b∈m)/\Ext w f:=by
 cases x:m.length with
 |zero=>
  refine(RJ d 13000 c t k m e w j ?_).mono ?_
  .unfold pM;rw[decide_eq_false om];rfl
  .rintro h f ⟨rfl,q⟩;exact⟨_,[],rfl,gM _ _ _ _,.inl rfl,q⟩
 |succ i=>
  obtain rfl:e=(i:Int):=om;obtain⟨b,l⟩:∃b,m[i]? =some b:=⟨_,aA om⟩;have n:=aM l;refine(OJ d 13000 c t k m i b w j l om (by have:=p b n;omega)).mono ?_;rintro h f ⟨g,rfl,r,s⟩;exact⟨g,b,rfl,r,.inr n,s⟩
def OpO(B g n t:Nat)(s:LgS)(cs:List CR)(ds:List DR)(ns:List (List Int))(w:World)(N:Int->Prop)(e:Ending)(w':World):Prop:=
 ∃a cd:Int,e= .returned (.tuple #[a,cd])/\Kp B w w'/\∃ds' ns',nX B 13000 w' g s ds' ns'/\StQ n (t+1) cs ds'/\
  ((cd=0/\a=(ns.length:Int)/\∃d l,ds'=ds++ [d]/\ns'=ns++ [l]/\l.Pairwise (· < ·)/\∀x∈l,N x)∨(cd≠0/\a=0/\ds'=ds/\ns'=ns))
theorem OpP.out{w:World}{q:Int->Prop}{j:Option DR}(h:OpP d F e t k m w j q P g)(r:StQ v c i k)(z:∀b,j=some b->StQ v (c+1) i (k++ [b]))(I:c<40):OpO d e v c t i k m w q P g:=by
 obtain⟨s,h⟩:=h;have u:∀{l:List DR} {x:List (List Int)},nX d F g e t l x->StQ v (c+1) i l->nX d 13000 g e t l x:=λA f=>A.tight λb y=>⟨f.sz om (dF _ (bJ.2 ⟨b,y,rfl⟩)),f.2 b y⟩
 cases j with
 |some b=>
  obtain⟨n,B,p,C,D⟩:=h;have f:=z b rfl;exact⟨_,_,n,s,_,_,u p f,f,.inl ⟨rfl,rfl,b,B,rfl,rfl,C,D⟩⟩
 |none=>
  obtain⟨_,E,n,p⟩:=h;exact⟨_,_,n,s,_,_,u p r.next,r.next,.inr ⟨E,rfl,rfl,rfl⟩⟩
theorem H8(G:LwG v d t x i)(l:Value)(f:CE)(w:World)(b:LwI g e c F v d t A x j i k m p w)(n:CnE w l f)(q:o7 [f]=false):
  Calls prog 12 #[(c,0),l] w λr s=>OpO e c v d t i k m w (λu=>u=(m.length:Int)) r s:=by
 obtain⟨⟨_,_⟩, -,y⟩:=OE (c:=f) q sm;have:=b.len;have:=b.dl;have:=G.cl;have z:=G.t;refine(GY e 13000 6 13000 c t k m l (FA f) w b.lg (y n) om om om om lr om om).mono λr s B=>B.out b.st (λ_ h=> ?_) z
 unfold V3 at h;split at h
 .rename_i C
  cases h
  exact b.st.form n.digs q (by rw[<-G.nn];exact C) rfl rfl
 .cases h
theorem US(f:StQ c d i k)(g:c<=50):∀b∈usC i k j,b.2.1.length<=50:=λb e=>by
 unfold usC at e;obtain⟨_, -,rfl⟩:=bJ.1 e;exact CP (P:=λb=>b.2.1.length<=50) (λb e=>aE (f.len e) g) zl _
theorem OM(G:LwG v d t x i)(l:Value)(f:List TE)(n:Int)(w:World)(b:LwI g e c F v d t A x j i k m p w)(q:TLE w l f)(r:nU f=false):
  Calls prog 13 #[(c,0),l,n] w λs u=>OpO e c v d t i k m w (λz=>z∈usN m (mkV (sY f))) s u:=by
 obtain⟨B,C,_⟩:=vO r;have D:=b.len;have:=b.dl;have:=G.cl;have E:=G.t;have:=MG;have y:(mkV (sY f)).length<=30:=aE (AK _) (by rw[uG];exact B);have:=b.ne.usl y;have:=uG f;refine(EL e 13000 989500000 c 13000 6 ((sY f).length*(6+1)) 50 30 19816501 396331 19816501 t i k m l (sY f) n w b.lg ((b.fr.cl om).leP om) (q.tl 6 om om C) om lr om D om om om rfl om om om om (US b.st G.n50) y om om om om om om de om).mono λs u I=>I.out b.st (λ_ h=> ?_) E
 unfold JS at h;split at h
 .split at h
  .cases h
   exact b.st.sum q.digs r
  .cases h
 .cases h
theorem JI(G:LwG v d t x i)(n:Value)(f:List TE)(l:Int)(w:World)(b:LwI g e c F v d t A x j i k m p w)(q:TLE w n f)(r:nU f=false):
  Calls prog 14 #[(c,0),n,l] w λs u=>OpO e c v d t i k m w (λB=>B∈usN m (mkV (sY f))) s u:=by
 obtain⟨C,D,_⟩:=vO r;have E:=b.len;have:=b.dl;have:=G.cl;have I:=G.t;have y:=G.n50;have:=MG;have z:(mkV (sY f)).length<=30:=aE (AK _) (by rw[uG];exact C);have:=b.ne.usl z;have:=uG f;have:(oD (usC i k (mkV (sY f))) ((mkV (sY f)).map (·.2)) l).2.1.length<=50:=by
  obtain⟨⟨_,J,_,K⟩, -⟩:=b.st;exact aE (DN (s:=l) J K q.digs r).1.len y
 refine(AX e 13000 990825101 c 13000 6 ((sY f).length*(6+1)) 50 30 19816501 396331 19816501 990825100 t i k m x n (sY f) l w b.lg ((b.fr.cl om).leP om) (CD b.fr.bs G.wn) (q.tl 6 om om D) om lr om E om om om rfl om om om om (US b.st y) z om om om om om om de om om om om om om om).mono λs u L=>L.out b.st (λ_ h=> ?_) I
 unfold FB at h;split at h
 .split at h
  .split at h
   .cases h
    exact b.st.rnd q.digs r
   .cases h
  .cases h
 .cases h
theorem JJ(G:LwG v d t x i)(l:Value)(f:CE)(pl q n r:Int)(w:World)(b:LwI g e c F v d t A x j i k m p w)(s:CnE w l f)(u:o7 [f]=false):
  Calls prog 15 #[(c,0),l,pl,q,n,r] w λy z=>OpO e c v d t i k m w (WG m pl n) y z:=by
 obtain⟨⟨_,_⟩, -,C⟩:=OE (c:=f) u sm;have D:=b.len;have:=b.dl;have:=G.cl;have E:=G.t;have I:=G.n50;have:=MG;have J:(mW (FA f)).2.1.length<=50:=aE (AK _) om;refine(JH e 13000 13000 6 13000 50 c t i k m x l (FA f) pl q n r w b.lg ((b.fr.cl om).leP om) (CD b.fr.bs G.wn) (C s) om om om om lr om lr om D om (λK _=>CP (P:=λf=>f.2.1.length<=50) (λf L=>aE (b.st.len L) I) zl K) J om om (λ_ M=>by have:=b.ne.len M;omega)).mono λy z N=>N.out b.st (λ_ h=> ?_) E
 unfold JQ at h;split at h
 .rename_i B
  cases h
  simp only[aU]at B;exact b.st.form s.digs u (by rw[<-G.nn];exact B.1.1) rfl rfl
 .cases h
def LwO(w0:World)(B g gm n t:Nat)(s:LgS)(nm:List ByteArray)(bs:List Bool)(ob:List (Int×Rat))(cs:List CR)(ds:List DR)(ns:List (List Int))(w:World)(v11 v12:Value)(w':World):Prop:=
 zD w w'/\∃(cd a:Int) (ds':List DR) (ns':List (List Int)) (c:Int->Int),v11=cd/\v12=a/\Ext w0 w'/\nX B 13000 w' g s ds' ns'/\LgF B 357 w' s nm bs ob cs/\AsM w' gm (t+1) c/\StQ n (t+1) cs ds'/\NeI c ns'/\(∀x:Int,(ns.length:Int)+1<=x->c x=0)/\
  ((cd=0/\a=(ns.length:Int)/\(∃d,ds'=ds++ [d])/\ns'.length=ns.length+1)∨(cd≠0/\a=0/\ds'=ds/\ns'=ns))
theorem LwI.out{q:Nat}{w:World}{r:Int->Prop}(f:LwI g c q F e v t A x j i k m p w)(u:g.heap.size<=c)(y:OpO c q e v t i k m w r P N)(z:∀b,r b->0<=b/\b<(m.length:Int)/\p b≠0):
  ∃a h:Int,P= .returned (.tuple #[a,h])/\LwO g c q F e v t A x j i k m w h a N:=by
 obtain⟨a,h,rfl,n,B,C,D,E,h3⟩:=y;refine⟨a,h,rfl,n.keep,h,a,B,C,p,rfl,rfl,n.ext g u f.ext,D,f.fr.kp n,(f.map.kp n).mono om,E,?_,λb s=>f.no b om,?_⟩
 .rcases h3 with⟨-, -,d,l, -,rfl,h4,h5⟩ |⟨-, -, -,rfl⟩
  .exact f.ne.add h4 λb s=>by
    obtain⟨I,_,J⟩:=z b (h5 b s);exact⟨I,om,J⟩
  .exact f.ne
 .exact gS0
theorem LwI.outA{f:Nat}{w:World}(h:LwI g v e f F c t A x j i k m p w)(C:g.heap.size<=v)(D:g.heap.size<=f)(E:OpO v e F c t i k m w (λb=>b=(m.length:Int)) P N):
  ∃a n:Int,P= .returned (.tuple #[a,n])/\AsM N f c p/\zD w N/\∀u,AsM u f (c+1) (λq=>if q=(m.length:Int)then 1 else p q)->Chg f N u->LwO g v e f F c t A x j i k m w n a u:=by
 obtain⟨a,n,rfl,r,I,J,K,L,h3⟩:=E;have y:=h.map.kp r;refine⟨a,n,rfl,y,r.keep,λu M z=>⟨λc e i O s=>FI z y.is (r.keep c e i O s),n,a,I,J,_,rfl,rfl,(r.ext g C h.ext).step z D,K.chgM z y.is,(h.fr.kp r).keepL (yF z y.is),M,L,?_,λb s=> ?_,?_⟩⟩
 .have B:NeI (λq=>if q=(m.length:Int)then 1 else p q) m:=h.ne.congr λb _ s R=>by
   show(if b=(m.length:Int)then(1:Int)else p b)≠0;rw[if_neg om];exact R
  rcases h3 with⟨-, -,d,l, -,rfl,h4,h5⟩ |⟨-, -, -,rfl⟩
  .exact B.add h4 λb s=>by
    have:=h5 b s;subst this;refine⟨om,om,?_⟩;show(if(m.length:Int)=m.length then(1:Int)else _)≠0;rw[if_pos rfl];decide
  .exact B
 .show(if b=(m.length:Int)then(1:Int)else p b)=0;rw[if_neg om];exact h.no b om
 .exact gS0
theorem ag1{b:List J}(m:b.length=10):∃c d e f g h i j k l,b=[c,d,e,f,g,h,i,j,k,l]:=by
 match b,m with
 | [c,d,e,f,g,h,i,j,k,l],_=>exact ⟨c,d,e,f,g,h,i,j,k,l,rfl⟩
theorem XS{b:List J}(q:b.length=13):∃c d e f g h i j k l m n p,b=[c,d,e,f,g,h,i,j,k,l,m,n,p]:=by
 match b,q with
 | [c,d,e,f,g,h,i,j,k,l,m,n,p],_=>exact ⟨c,d,e,f,g,h,i,j,k,l,m,n,p,rfl⟩
theorem ai6{b:List J}(g:b.length=4):∃c d e f,b=[c,d,e,f]:=by
 match b,g with
 | [c,d,e,f],_=>exact ⟨c,d,e,f,rfl⟩
theorem ai7{b:List J}(h:b.length=5):∃c d e f g,b=[c,d,e,f,g]:=by
 match b,h with
 | [c,d,e,f,g],_=>exact ⟨c,d,e,f,g,rfl⟩
theorem D6{H:Type}{enc:TypeId×Value->H}{w:World}{base:Nat}{spare:Nat->Bool}{held:Bool}{f0 f1 f2 f3 f4 f5:Field}{k:DataW H×List MemPlace}(l:y.underlying I=some (.struct #[f0,f1,f2,f3,f4,f5]))(m:DataW.trod enc y w base spare held c I n=some k):
  ∃e f g h i j b,k.1= .agg [e.1,f.1,g.1,h.1,i.1,j.1]/\n.length=y.cellsOf I/\DataW.trod enc y w base spare held b f0.type ((n.drop f0.offset).take (y.cellsOf f0.type))=some e/\DataW.trod enc y w base spare held b f1.type ((n.drop f1.offset).take (y.cellsOf f1.type))=some f/\DataW.trod enc y w base spare held b f2.type ((n.drop f2.offset).take (y.cellsOf f2.type))=some g/\DataW.trod enc y w base spare held b f3.type ((n.drop f3.offset).take (y.cellsOf f3.type))=some h/\DataW.trod enc y w base spare held b f4.type ((n.drop f4.offset).take (y.cellsOf f4.type))=some i/\DataW.trod enc y w base spare held b f5.type ((n.drop f5.offset).take (y.cellsOf f5.type))=some j:=by
 obtain⟨p,b,_,rfl,q,r,d⟩:=DataW.trod_struct l m;match p,r with
 | [e,f,g,h,i,j],_=>exact ⟨e,f,g,h,i,j,b,sm,q,by simpa using d 0 f0 rfl,by simpa using d 1 f1 rfl,by simpa using d 2 f2 rfl,by simpa using d 3 f3 rfl,by simpa using d 4 f4 rfl,by simpa using d 5 f5 rfl⟩
theorem N8{H:Type}{enc:TypeId×Value->H}{w:World}{base:Nat}{spare:Nat->Bool}{held:Bool}{f0 f1 f2 f3 f4 f5 f6:Field}{l:DataW H×List MemPlace}(m:y.underlying I=some (.struct #[f0,f1,f2,f3,f4,f5,f6]))(p:DataW.trod enc y w base spare held c I n=some l):
  ∃e f g h i j k b,l.1= .agg [e.1,f.1,g.1,h.1,i.1,j.1,k.1]/\n.length=y.cellsOf I/\DataW.trod enc y w base spare held b f0.type ((n.drop f0.offset).take (y.cellsOf f0.type))=some e/\DataW.trod enc y w base spare held b f1.type ((n.drop f1.offset).take (y.cellsOf f1.type))=some f/\DataW.trod enc y w base spare held b f2.type ((n.drop f2.offset).take (y.cellsOf f2.type))=some g/\DataW.trod enc y w base spare held b f3.type ((n.drop f3.offset).take (y.cellsOf f3.type))=some h/\DataW.trod enc y w base spare held b f4.type ((n.drop f4.offset).take (y.cellsOf f4.type))=some i/\DataW.trod enc y w base spare held b f5.type ((n.drop f5.offset).take (y.cellsOf f5.type))=some j/\DataW.trod enc y w base spare held b f6.type ((n.drop f6.offset).take (y.cellsOf f6.type))=some k:=by
 obtain⟨q,b,_,rfl,r,s,d⟩:=DataW.trod_struct m p;match q,s with
 | [e,f,g,h,i,j,k],_=>exact ⟨e,f,g,h,i,j,k,b,sm,r,by simpa using d 0 f0 rfl,by simpa using d 1 f1 rfl,by simpa using d 2 f2 rfl,by simpa using d 3 f3 rfl,by simpa using d 4 f4 rfl,by simpa using d 5 f5 rfl,by simpa using d 6 f6 rfl⟩
theorem N7{H:Type}{enc:TypeId×Value->H}{w:World}{base:Nat}{spare:Nat->Bool}{held:Bool}{f0 f1 f2 f3:Field}{i:DataW H×List MemPlace}(j:y.underlying I=some (.struct #[f0,f1,f2,f3]))(k:DataW.trod enc y w base spare held c I n=some i):
  ∃d e f g b,i.1= .agg [d.1,e.1,f.1,g.1]/\n.length=y.cellsOf I/\DataW.trod enc y w base spare held b f0.type ((n.drop f0.offset).take (y.cellsOf f0.type))=some d/\DataW.trod enc y w base spare held b f1.type ((n.drop f1.offset).take (y.cellsOf f1.type))=some e/\DataW.trod enc y w base spare held b f2.type ((n.drop f2.offset).take (y.cellsOf f2.type))=some f/\DataW.trod enc y w base spare held b f3.type ((n.drop f3.offset).take (y.cellsOf f3.type))=some g:=by
 obtain⟨l,b,_,rfl,m,p,h⟩:=DataW.trod_struct j k;match l,p with
 | [d,e,f,g],_=>exact ⟨d,e,f,g,b,sm,m,by simpa using h 0 f0 rfl,by simpa using h 1 f1 rfl,by simpa using h 2 f2 rfl,by simpa using h 3 f3 rfl⟩
theorem N6{H:Type}{enc:TypeId×Value->H}{w:World}{base:Nat}{spare:Nat->Bool}{held:Bool}{f0 f1 f2:Field}{h:DataW H×List MemPlace}(i:y.underlying I=some (.struct #[f0,f1,f2]))(j:DataW.trod enc y w base spare held c I n=some h):
  ∃d e f b,h.1= .agg [d.1,e.1,f.1]/\n.length=y.cellsOf I/\DataW.trod enc y w base spare held b f0.type ((n.drop f0.offset).take (y.cellsOf f0.type))=some d/\DataW.trod enc y w base spare held b f1.type ((n.drop f1.offset).take (y.cellsOf f1.type))=some e/\DataW.trod enc y w base spare held b f2.type ((n.drop f2.offset).take (y.cellsOf f2.type))=some f:=by
 obtain⟨k,b,_,rfl,l,m,g⟩:=DataW.trod_struct i j;match k,m with
 | [d,e,f],_=>exact ⟨d,e,f,b,sm,l,by simpa using g 0 f0 rfl,by simpa using g 1 f1 rfl,by simpa using g 2 f2 rfl⟩
theorem CF:prog.cellsOf 9=1:=kr
theorem AF:prog.cellsOf 3=1:=kr
theorem ZB:prog.cellsOf 40=4:=kr
theorem ZF:prog.cellsOf 41=1:=kr
theorem LX:prog.cellsOf 32=1:=kr
theorem T9:prog.cellsOf 39=5:=kr
theorem TA:prog.cellsOf 43=13:=kr
theorem TB:prog.cellsOf 81=10:=kr
theorem TD:prog.cellsOf 86=13:=kr
theorem ZC:prog.cellsOf 25=4:=kr
theorem ZD:prog.cellsOf 22=1:=kr
theorem ZE:prog.cellsOf 23=1:=kr
section
variable {H:Type} {enc:TypeId×Value->H} {w:World} {base:Nat} {spare:Nat->Bool} {held:Bool}
theorem EB{d:DataW H×List MemPlace}(e:DataW.trod enc prog w base spare held c 32 n=some d):∃b,n=[b]/\∃a f g,b= .slice a f g:=by
 rcases Go.Deep.open_slice underlying32 e with⟨rfl,rfl⟩ |⟨a,_,_,_,_,_,_,rfl,_,_,_,_,rfl,_⟩
 .exact⟨_,rfl,_,_,_,rfl⟩
 .exact⟨_,rfl,_,_,_,rfl⟩
theorem ah0{w:World}{c:List RE}(d:SLQ w r c):∃a b e,r= .slice a b e:=by
 obtain⟨_,b,_, -,rfl, -⟩:=SL.opn d;exact⟨_,_,_,rfl⟩
theorem A6{f:DataW H×List MemPlace}(b:Nat)(M:b<=4611686018427387903)(q:∀r∈f.1.weights prog 32,r<=b)(s:DataW.trod enc prog w base spare held c 32 n=some f):
  ∃h i,n=[h]/\TLE w h i/\i.length*64<=b:=by
 obtain⟨t,d,u,v,j, -⟩:=tL (R:=TmE) (F:=λ_ _=>True) b underlying32 TC om (λc n f _ x y=>by
  obtain⟨z,e,k,l,g,d,rfl,_,m,A,p,B,C⟩:=RW y;have:=C b x;have D:o9 w (.agg #[e,k,l]) (e,g,d):=⟨⟨k,l,rfl,m,p⟩,A,B,by show g.length+d.length<=_;omega⟩;have E:=m;have F:=p;obtain⟨I,J,rfl, -⟩:=E;obtain⟨K,L,rfl, -⟩:=F;exact⟨(z,e,g,d),⟨e,I,_,J,K,_,L,rfl,D⟩,trivial⟩) q s
 rw[ZA]at j;exact⟨t,d,u,v,j⟩
theorem RU{e:DataW H×List MemPlace}(b:Nat)(B:b<=4611686018427387903)(h:∀i∈e.1.weights prog 41,i<=b)(j:DataW.trod enc prog w base spare held c 41 n=some e):
  ∃f k,n=[f]/\SLQ w f k:=by
 obtain⟨l,d,m,p,_, -⟩:=tL (R:=o9) (F:=λ_ _=>True) b underlying41 yE om (λc n e _ q r=>by
  obtain⟨s,t,u,g,d,rfl,v,x,y,z,A, -⟩:=sV r;have:=A b q;exact⟨(s,g,d),⟨⟨t,u,rfl,v,y⟩,x,z,by show g.length+d.length<=_;omega⟩,trivial⟩) h j
 exact⟨l,d,m,p⟩
theorem RR{s:DataW H×List MemPlace}(g:Nat)(b6:g<=4611686018427387903)(t:∀b∈s.1.weights prog 39,b<=g)(O:DataW.trod enc prog w base spare held c 39 n=some s):
  ∃k u v x y l,n=[.int .i64 k,u,v,x,y]/\CnE w (.agg #[.int .i64 k,u,v,x,y]) l/\l.1=k/\l.2.1.length*64<=g:=by
 obtain⟨_,_,_,b,z,A,P,B,R⟩:=N6 underlying39 O;rw[T9]at A;obtain⟨h,f,i,d,e,rfl⟩:=ai7 A;have S:List.take (prog.cellsOf 3) (List.drop 0 [h,f,i,d,e])=[h]:=by rw[AF];rfl
 obtain⟨m,T,_, -⟩:=sU P;have C: [h]=[.int .i64 m]:=S▸T;have D:List.take (prog.cellsOf 32) (List.drop 1 [h,f,i,d,e])=[f]:=by rw[LX];rfl
 obtain⟨_,U,E,F,I,rfl⟩:=EB B;obtain⟨V,X,Y,Z,a0⟩:=A6 g om (λb p=>t b (by
  rw[z];simp only[DataW.weights,underlying39];exact DataW.weights_mem_each (j:=1) rfl rfl b p)) B
 have J: [f]=[.slice E F I]:=D▸U;have K: [f]=[V]:=D▸Y;have a1:List.take (prog.cellsOf 37) (List.drop 2 [h,f,i,d,e])=[i,d,e]:=by rw[yE];rfl
 obtain⟨j,a2,a3,q,r,a4,L,a5,M,a6,a7, -⟩:=sV R;have:=a7 g (λb p=>t b (by
  rw[z];simp only[DataW.weights,underlying39];exact DataW.weights_mem_each (j:=2) rfl rfl b p))
 have N: [i,d,e]=[.bool j,a2,a3]:=a1▸a4;simp only[List.cons.injEq,and_true]at C J N K;subst C;subst J;subst K;obtain⟨rfl,rfl,rfl⟩:=N;have a9:o9 w (.agg #[j,d,e]) (j,q,r):=⟨⟨d,e,rfl,L,M⟩,a5,a6,by show q.length+r.length<=_;omega⟩;have b0:=L;have b1:=M;obtain⟨b2,b3,rfl, -⟩:=b0;obtain⟨b4,b5,rfl, -⟩:=b1;exact⟨m,_,_,_,_,(m,X,(j,q,r)),rfl,⟨E,F,I,j,b2,_,b3,b4,_,b5,rfl,Z,a9⟩,rfl,a0⟩
theorem RS{j:DataW H×List MemPlace}(e:Nat)(k:e<=4611686018427387903)(l:∀m∈j.1.weights prog 39,m<=e)(p:DataW.trod enc prog w base spare held c 39 n=some j):∃b f g h i d,n=[.int .i64 b,f,g,h,i]/\CnE w (.agg #[.int .i64 b,f,g,h,i]) d/\d.1=b/\True/\d.2.1.length*64<=e:=by
 obtain⟨b,f,g,h,i,d,q,r,s,t⟩:=RR e k l p;exact⟨b,f,g,h,i,d,q,r,s,trivial,t⟩
theorem Y5{y:DataW H×List MemPlace}(s:Nat)(z:s<=140737488355328)(u:∀b∈y.1.weights prog 43,b<=s)(Y:DataW.trod enc prog w base spare held c 43 n=some y):
  ∃o,OpH w (.agg n.toArray) o:=by
 obtain⟨_,_,_,_,Z,_,b,v,A,a0,a1,a2,B,a3,a4⟩:=D6 underlying43 Y;rw[TA]at A;obtain⟨g,d,e,h,i,j,k,f,l,m,p,q,r,rfl⟩:=XS A;have a5:List.take (prog.cellsOf 3) (List.drop 0 [g,d,e,h,i,j,k,f,l,m,p,q,r])=[g]:=by rw[AF];rfl
 obtain⟨C,a6,_, -⟩:=sU a0;have D: [g]=[.int .i64 C]:=a5▸a6;have a7:List.take (prog.cellsOf 3) (List.drop 1 [g,d,e,h,i,j,k,f,l,m,p,q,r])=[d]:=by rw[AF];rfl
 obtain⟨E,a9,_, -⟩:=sU a1;have F: [d]=[.int .i64 E]:=a7▸a9;have b0:List.take (prog.cellsOf 39) (List.drop 2 [g,d,e,h,i,j,k,f,l,m,p,q,r])=[e,h,i,j,k]:=by rw[T9];rfl
 obtain⟨b1,b2,b3,b4,t2,b5,b6,I,_, -,b7⟩:=RS s om (λb t=>u b (by
  rw[v];simp only[DataW.weights,underlying43];exact DataW.weights_mem_each (j:=2) rfl rfl b t)) a2
 have J: [e,h,i,j,k]=[.int .i64 b1,b2,b3,b4,t2]:=b0▸b6;have K:List.take (prog.cellsOf 32) (List.drop 7 [g,d,e,h,i,j,k,f,l,m,p,q,r])=[f]:=by rw[LX];rfl
 obtain⟨_,b8,x,b9,L,rfl⟩:=EB B;obtain⟨bA,bB,bC,bD,bE⟩:=A6 s om (λb t=>u b (by
  rw[v];simp only[DataW.weights,underlying43];exact DataW.weights_mem_each (j:=3) rfl rfl b t)) B
 have M: [f]=[.slice x b9 L]:=K▸b8;have N: [f]=[bA]:=K▸bC;have bG:List.take (prog.cellsOf 40) (List.drop 8 [g,d,e,h,i,j,k,f,l,m,p,q,r])=[l,m,p,q]:=by rw[ZB];rfl
 have bO:DataW.trod enc prog w base spare held b 40 [l,m,p,q]=some Z:=by rw[<-a3,<-bG]
 obtain⟨_,_,_,L,_,_,bP,O,P,x⟩:=trod_array4 underlying40 AF bO;obtain⟨bR,R, -, -⟩:=sU bP;obtain⟨bS,S, -, -⟩:=sU O;obtain⟨bT,T, -, -⟩:=sU P;obtain⟨c0,U, -, -⟩:=sU x;have c1:List.take (prog.cellsOf 41) (List.drop 12 [g,d,e,h,i,j,k,f,l,m,p,q,r])=[r]:=by rw[ZF];rfl
 obtain⟨_,c2,c3,V⟩:=RU s om (λb t=>u b (by
  rw[v];simp only[DataW.weights,underlying43];exact DataW.weights_mem_each (j:=5) rfl rfl b t)) a4
 obtain⟨c4,c5,c6,rfl⟩:=ah0 V;have X: [r]=[.slice c4 c5 c6]:=c1▸c3;simp only[List.cons.injEq,and_true]at D F J M X N;subst D;subst F;obtain⟨rfl,rfl,rfl,rfl,rfl⟩:=J;subst M;subst N;simp only[List.cons.injEq,and_true]at R S T U;subst R S T U;subst X;have c7:=I;obtain⟨a,_,_,_,O,_,d,P,_,e,c8, -, -⟩:=c7
 cases c8
 exact⟨⟨C,E,b5,bB,bR,bS,bT,c0,c2⟩,_,_,_,_,_,_,_,_,_,_,_,_,_,_,_,_,rfl,I,bD,V,aE b7 z,aE bE z⟩
theorem W3{A:DataW H×List MemPlace}(p:Nat)(e6:p<=4611686018427387903)(t:∀b∈A.1.weights prog 81,b<=p)(a0:DataW.trod enc prog w base spare held c 81 n=some A):
  ∃B,RwH w (.agg n.toArray) B/\B.1.size<=maxLen:=by
 obtain⟨_,_,_,_,_,_,b,u,C,a1,a2,a3,a4,a5,D⟩:=D6 underlying81 a0;rw[TB]at C;obtain⟨i,j,k,l,d,e,m,f,g,h,rfl⟩:=ag1 C;have a6:List.take (prog.cellsOf 9) (List.drop 0 [i,j,k,l,d,e,m,f,g,h])=[i]:=by rw[CF];rfl
 obtain⟨E,a7, -,a9⟩:=DataW.trod_string underlying9 a1;have F: [i]=[.string E]:=a6▸a7;have b0:List.take (prog.cellsOf 4) (List.drop 1 [i,j,k,l,d,e,m,f,g,h])=[j]:=by rw[DK];rfl
 obtain⟨I,b1⟩:=tW a2;have J: [j]=[.bool I]:=b0▸b1;have b2:List.take (prog.cellsOf 4) (List.drop 2 [i,j,k,l,d,e,m,f,g,h])=[k]:=by rw[DK];rfl
 obtain⟨K,b3⟩:=tW a3;have L: [k]=[.bool K]:=b2▸b3;have b4:List.take (prog.cellsOf 37) (List.drop 3 [i,j,k,l,d,e,m,f,g,h])=[l,d,e]:=by rw[yE];rfl
 obtain⟨q,b5,b6,v,x,b7,M,b8,N,b9,bA, -⟩:=sV a4;have:=bA p (λb r=>t b (by
  rw[u];simp only[DataW.weights,underlying81];exact DataW.weights_mem_each (j:=3) rfl rfl b r))
 have O: [l,d,e]=[.bool q,b5,b6]:=b4▸b7;have bB:List.take (prog.cellsOf 37) (List.drop 6 [i,j,k,l,d,e,m,f,g,h])=[m,f,g]:=by rw[yE];rfl
 obtain⟨s,bC,bD,y,z,bE,P,bG,R,bO,bP, -⟩:=sV a5;have:=bP p (λb r=>t b (by
  rw[u];simp only[DataW.weights,underlying81];exact DataW.weights_mem_each (j:=4) rfl rfl b r))
 have S: [m,f,g]=[.bool s,bC,bD]:=bB▸bE;have T:List.take (prog.cellsOf 32) (List.drop 9 [i,j,k,l,d,e,m,f,g,h])=[h]:=by rw[LX];rfl
 obtain⟨_,bR,U,V,X,rfl⟩:=EB D;obtain⟨bS,bT,c0,c1,_⟩:=A6 p om (λb r=>t b (by
  rw[u];simp only[DataW.weights,underlying81];exact DataW.weights_mem_each (j:=5) rfl rfl b r)) D
 have Y: [h]=[.slice U V X]:=T▸bR;have Z: [h]=[bS]:=T▸c0;simp only[List.cons.injEq,and_true]at F J L O S Y Z;subst F;subst J;subst L;obtain⟨rfl,rfl,rfl⟩:=O;have c2:o9 w (.agg #[q,d,e]) (q,v,x):=⟨⟨d,e,rfl,M,N⟩,b8,b9,by show v.length+x.length<=_;omega⟩;have c3:=M;have c4:=N;obtain⟨c5,c6,rfl, -⟩:=c3;obtain⟨c7,c8,rfl, -⟩:=c4;obtain⟨rfl,rfl,rfl⟩:=S;have c9:o9 w (.agg #[s,f,g]) (s,y,z):=⟨⟨f,g,rfl,P,R⟩,bG,bO,by show y.length+z.length<=_;omega⟩;have e0:=P;have e1:=R;obtain⟨e2,e3,rfl, -⟩:=e0;obtain⟨e4,e5,rfl, -⟩:=e1;subst Y;subst Z;exact⟨(E,(I,K),((q,v,x),(s,y,z)),bT),⟨⟨q,c5,_,c6,c7,_,c8⟩,⟨s,e2,_,e3,e4,_,e5⟩,U,V,X,rfl,c2,c9,c1⟩,a9⟩
theorem W4{I:DataW H×List MemPlace}(s:Nat)(g0:s<=4611686018427387903)(y:∀b∈I.1.weights prog 86,b<=s)(a4:DataW.trod enc prog w base spare held c 86 n=some I):
  ∃J,VrH w (.agg n.toArray) J/\J.1.size<=maxLen:=by
 obtain⟨_,_,_,_,_,_,_,b,z,K,a5,a6,a7,a9,b0,b1,b2⟩:=N8 underlying86 a4;rw[TD]at K;obtain⟨j,k,l,m,p,d,e,q,f,g,r,h,i,rfl⟩:=XS K;have b3:List.take (prog.cellsOf 9) (List.drop 0 [j,k,l,m,p,d,e,q,f,g,r,h,i])=[j]:=by rw[CF];rfl
 obtain⟨L,b4, -,b5⟩:=DataW.trod_string underlying9 a5;have M: [j]=[.string L]:=b3▸b4;have b6:List.take (prog.cellsOf 4) (List.drop 1 [j,k,l,m,p,d,e,q,f,g,r,h,i])=[k]:=by rw[DK];rfl
 obtain⟨N,b7⟩:=tW a6;have O: [k]=[.bool N]:=b6▸b7;have b8:List.take (prog.cellsOf 4) (List.drop 2 [j,k,l,m,p,d,e,q,f,g,r,h,i])=[l]:=by rw[DK];rfl
 obtain⟨P,b9⟩:=tW a7;have R: [l]=[.bool P]:=b8▸b9;have bA:List.take (prog.cellsOf 4) (List.drop 3 [j,k,l,m,p,d,e,q,f,g,r,h,i])=[m]:=by rw[DK];rfl
 obtain⟨S,bB⟩:=tW a9;have T: [m]=[.bool S]:=bA▸bB;have bC:List.take (prog.cellsOf 37) (List.drop 4 [j,k,l,m,p,d,e,q,f,g,r,h,i])=[p,d,e]:=by rw[yE];rfl
 obtain⟨t,bD,bE,A,B,bG,U,bO,V,bP,bR, -⟩:=sV b0;have:=bR s (λb u=>y b (by
  rw[z];simp only[DataW.weights,underlying86];exact DataW.weights_mem_each (j:=4) rfl rfl b u))
 have X: [p,d,e]=[.bool t,bD,bE]:=bC▸bG;have bS:List.take (prog.cellsOf 37) (List.drop 7 [j,k,l,m,p,d,e,q,f,g,r,h,i])=[q,f,g]:=by rw[yE];rfl
 obtain⟨v,bT,c0,C,D,c1,Y,c2,Z,c3,c4, -⟩:=sV b1;have:=c4 s (λb u=>y b (by
  rw[z];simp only[DataW.weights,underlying86];exact DataW.weights_mem_each (j:=5) rfl rfl b u))
 have a0: [q,f,g]=[.bool v,bT,c0]:=bS▸c1;have c5:List.take (prog.cellsOf 37) (List.drop 10 [j,k,l,m,p,d,e,q,f,g,r,h,i])=[r,h,i]:=by rw[yE];rfl
 obtain⟨x,c6,c7,E,F,c8,a1,c9,a2,e0,e1, -⟩:=sV b2;have:=e1 s (λb u=>y b (by
  rw[z];simp only[DataW.weights,underlying86];exact DataW.weights_mem_each (j:=6) rfl rfl b u))
 have a3: [r,h,i]=[.bool x,c6,c7]:=c5▸c8;simp only[List.cons.injEq,and_true]at M O R T X a0 a3;subst M;subst O;subst R;subst T;obtain⟨rfl,rfl,rfl⟩:=X;have e2:o9 w (.agg #[t,d,e]) (t,A,B):=⟨⟨d,e,rfl,U,V⟩,bO,bP,by show A.length+B.length<=_;omega⟩;have e3:=U;have e4:=V;obtain⟨e5,e6,rfl, -⟩:=e3;obtain⟨e7,e8,rfl, -⟩:=e4;obtain⟨rfl,rfl,rfl⟩:=a0;have e9:o9 w (.agg #[v,f,g]) (v,C,D):=⟨⟨f,g,rfl,Y,Z⟩,c2,c3,by show C.length+D.length<=_;omega⟩;have eA:=Y;have eB:=Z;obtain⟨eC,eD,rfl, -⟩:=eA;obtain⟨eE,eG,rfl, -⟩:=eB;obtain⟨rfl,rfl,rfl⟩:=a3;have eN:o9 w (.agg #[x,h,i]) (x,E,F):=⟨⟨h,i,rfl,a1,a2⟩,c9,e0,by show E.length+F.length<=_;omega⟩;have fA:=a1;have fB:=a2;obtain⟨fC,fD,rfl, -⟩:=fA;obtain⟨fE,fG,rfl, -⟩:=fB;exact⟨(L,(N,P,S),((t,A,B),(v,C,D),(x,E,F))),⟨⟨t,e5,_,e6,e7,_,e8⟩,⟨v,eC,_,eD,eE,_,eG⟩,⟨x,fC,_,fD,fE,_,fG⟩,rfl,e2,e9,eN⟩,b5⟩
theorem ad4{g:J->Prop}{h:DataW H}{e:List J}(f:(h= .nil/\e=[])∨∃c i,h= .slice c i/\c.length=e.length/\∀(d:Nat) (l:DataW H) (b:J),c[d]? =some l->e[d]? =some b->g b):∀b∈e,g b:=λb j=>by
 rcases f with⟨-,rfl⟩ |⟨c,i, -,_,f⟩
 .cases j
 .obtain⟨d,k⟩:=gN j;have:=(aH.1 k).1;exact f d c[d] b (aA om) k
theorem RV{d:DataW H×List MemPlace}(b:Nat)(h:b<=4611686018427387903)(i:∀j∈d.1.weights prog 22,j<=b)(k:DataW.trod enc prog w base spare held c 22 n=some d):
  ∃f g,n=[f]/\LO w f g/\∀e∈g,e.1.size<=maxLen:=by
 obtain⟨l,m,p,q,_,r⟩:=tL (R:=RwH) (F:=λ_ e=>e.1.size<=maxLen) b underlying22 TB om (λc n d _ s t=>W3 b h s t) i k;exact⟨l,m,p,q,ad4 r⟩
theorem RX{d:DataW H×List MemPlace}(b:Nat)(h:b<=4611686018427387903)(i:∀j∈d.1.weights prog 23,j<=b)(k:DataW.trod enc prog w base spare held c 23 n=some d):
  ∃f g,n=[f]/\FW w f g/\∀e∈g,e.1.size<=maxLen:=by
 obtain⟨l,m,p,q,_,r⟩:=tL (R:=VrH) (F:=λ_ e=>e.1.size<=maxLen) b underlying23 TD om (λc n d _ s t=>W4 b h s t) i k;exact⟨l,m,p,q,ad4 r⟩
theorem RT{m:DataW H×List MemPlace}(i:Nat)(p:i<=4611686018427387903)(q:∀b∈m.1.weights prog 25,b<=i)(C:DataW.trod enc prog w base spare held c 25 n=some m):
  ∃h,PbH w (.agg n.toArray) h/\h.1.1.size<=maxLen/\h.1.2.size<=maxLen/\(∀j∈h.2.1,j.1.size<=maxLen)/\∀j∈h.2.2,j.1.size<=maxLen:=by
 obtain⟨_,_,_,_,b,r,s,D,E,F,I⟩:=N7 underlying25 C;rw[ZC]at s;obtain⟨d,e,f,g,rfl⟩:=ai6 s;have J:List.take (prog.cellsOf 9) (List.drop 0 [d,e,f,g])=[d]:=by rw[CF];rfl
 obtain⟨t,K, -,L⟩:=DataW.trod_string underlying9 D;have u: [d]=[.string t]:=J▸K;have M:List.take (prog.cellsOf 9) (List.drop 1 [d,e,f,g])=[e]:=by rw[CF];rfl
 obtain⟨v,N, -,O⟩:=DataW.trod_string underlying9 E;have x: [e]=[.string v]:=M▸N;have P:List.take (prog.cellsOf 22) (List.drop 2 [d,e,f,g])=[f]:=by rw[ZD];rfl
 obtain⟨R,S,T,y,U⟩:=RV i p (λb k=>q b (by
  rw[r];simp only[DataW.weights,underlying25];exact DataW.weights_mem_each (j:=2) rfl rfl b k)) F
 have z: [f]=[R]:=P▸T;have V:List.take (prog.cellsOf 23) (List.drop 3 [d,e,f,g])=[g]:=by rw[ZE];rfl
 obtain⟨X,Y,Z,A,a0⟩:=RX i p (λb k=>q b (by
  rw[r];simp only[DataW.weights,underlying25];exact DataW.weights_mem_each (j:=3) rfl rfl b k)) I
 have B: [g]=[X]:=V▸Z;simp only[List.cons.injEq,and_true]at u x z B;subst u;subst x;subst z;subst B;obtain⟨_,_,_, -,l, -, -⟩:=LO.at y;subst l;obtain⟨_,_,_, -,l, -, -⟩:=FW.at A;subst l;exact⟨((t,v),S,Y),⟨_,_,_,_,_,_,rfl,y,A⟩,L,O,U,a0⟩
theorem ag7{f:DataW H}{b:List MemPlace}(j:Value.okWide prog g .any c 25 r)(k:DataW.Trod enc prog w base spare held 25 r f b)(d:Nat)(l:d<=4611686018427387903)(m:∀n∈f.weights prog 25,n<=d):
  ∃b,PbH w r b/\b.1.1.size<=maxLen/\b.1.2.size<=maxLen/\(∀e∈b.2.1,e.1.size<=maxLen)/\∀e∈b.2.2,e.1.size<=maxLen:=by
 obtain⟨h,rfl,_⟩:=okWide_struct underlying25 j;obtain⟨_,p⟩:=k;obtain⟨q,i⟩:=RT d l m p;have s:(Value.agg h).cells.toList=h.toList:=rfl;rw[s,Array.toArray_toList]at i;exact⟨q,i⟩
theorem ab2{f:DataW H}{i:List MemPlace}(j:Value.okWide prog g .any c 26 r)(k:DataW.Trod enc prog w base spare held 26 r f i)(b:Nat)(l:b<=140737488355328)(m:∀d∈f.weights prog 26,d<=b):
  ∃n,OpL w r n:=by
 obtain⟨a,d,e,rfl⟩:=okWide_slice underlying26 j;obtain⟨p,q⟩:=k;obtain⟨_,s,h,t,_, -⟩:=tL (R:=OpH) (F:=λ_ _=>True) b underlying26 TA om (λp _ _ _ u v=>by
  obtain⟨e,x⟩:=Y5 b l u v;exact⟨e,x,trivial⟩) m q
 have y:(Value.slice a d e).cells.toList=[Value.slice a d e]:=rfl;rw[y]at h
 cases h
 exact⟨s,t⟩
end
theorem ac7(b:PbE):((b.2.2.map λc=>(c.1,EX c)).map (·.2):List VrR)=(pP b).2:=by
 rw[List.map_map];rfl
theorem U0(kE kG:Value)(b:PbE)(ops:List OpE)(w:World)(hv:PbH w kE b)(l0:b.1.1.size<=9223372036854775807)(l1:b.1.2.size<=9223372036854775807)(l2:∀f∈b.2.1,f.1.size<=9223372036854775807)(l3:∀f∈b.2.2,f.1.size<=9223372036854775807)(l4:OpL w kG ops):
  Calls prog 3 #[kE,kG] w λe q8=>e= .returned true/\Ext w q8:=by
 have gL:=a8 hv;have eC:=a8 (aD l0 (aD l1 (aD l2 l3)));obtain⟨gT,h0,h1,l5,l6,l7,rfl,b7,l9⟩:=id hv;have h2:=a8 (aD b7 l9);obtain⟨_,b1,_,lA,rfl,_,lB⟩:=SL.opn l4;have q9:=a8 lA;have qA:=a8 lB;obtain⟨qB,h3,lC,lD,qC⟩:=kR w #[b.1.1,b.1.2,(gT,h0,h1),(l5,l6,l7)] 25;have lE:=a8 lD;have lG:=a8 lC;clear l0 l1 l2 l3 b7 l9 l4 lA lB lD lC hv qC;go_enter func3,ntmps3;go_wp2_with fail;rw[<-h3];clear h3;refine(JP qB).mono ?_;rintro e h4 ⟨rfl,h5⟩;have h6:=lE.out.ext h5;have h7:=a8 (lG.out.trans h5);have m0:=a8 h6;obtain⟨b8,b9,hp2,bA,-⟩:=h6.cl [0,1,2,3];clear h6 h5;go_wp2_with fail;refine(JG _ b h4 (gL.out.ext h7.out)).mono ?_;rintro e qD ⟨x,rfl,hx,h8⟩;have h9:=m0.out.ext h8;have bB:=a8 (h7.out.trans h8);have m1:=a8 h9;clear b8 b9 hp2 bA;obtain⟨b8,b9,hp2,bA,-⟩:=h9.cl [0,1,2,3];clear h9 h8
 cases x with
 |true=>
  go_wp2;go_ret;exact⟨rfl,bB.out⟩
 |false=>
 have eD:=a8 (hx rfl);clear hx;by_cases x9:40<b1
 .have qE:(40:Int)<(b1:Int):=om;go_wp2;go_ret;exact⟨rfl,bB.out⟩
 have qE:¬(40:Int)<(b1:Int):=om;go_wp2_with fail;refine(P9 _ b qD (gL.out.ext bB.out) eD.out eC.out.1 eC.out.2.1 eC.out.2.2.1 eC.out.2.2.2).mono ?_;rintro e m2 ⟨qG,rfl,hA⟩;have m3:=m1.out.ext hA;have b2:=a8 (bB.out.trans hA);clear b8 b9 hp2 bA;obtain⟨b8,b9,hp2,bA,-⟩:=m3.cl [0,1,2,3];clear m3 hA
 cases qG with
 |false=>
  go_wp2;go_ret;exact⟨rfl,b2.out⟩
 |true=>
 go_wp2_with fail;have m4:RwL 6 m2 (gT,h0,h1) (pP b).1:=SL.mapL (h2.out.1.ext b2.out) λ_ eE hB bC=>RwH.rwv bC (eD.out.2.2.1 eE hB)
 have m5:=(h2.out.2.ext b2.out).vnn eD.out.2.2.2;have m6:(pP b).1.length=b.2.1.length:=by unfold pP;rw[aF]
 have eG:(b.2.2.map λf=>(f.1,EX f)).length=b.2.2.length:=aF ..;have F:=eD.out;have m7:=ZK F;have hC:((pP b).1,(b.2.2.map λf=>(f.1,EX f)).map (·.2))=pP b:=by rw[ac7]
 refine(KY 6 357 30 b.1.1 b.1.2 gT h0 h1 l5 l6 l7 (pP b).1 (b.2.2.map λf=>(f.1,EX f)) m2 m4 m5 (λf b7=>by
  unfold pP at b7;obtain⟨eE,hB,rfl⟩:=bJ.1 b7;have:=(F.2.2.1 eE hB).2.2.1;show(sY eE.2.2.2).length<=30;rw[uG];exact this) om om om om (by rw[eG];have:=F.2.1;omega) om (by rw[m6];have:=F.1;omega) (by rw[eG];have:=F.2.1;omega) (by rw[hC];omega)).mono ?_
 rw[hC];obtain⟨p,eN⟩:=ex (rJ (pP b));obtain⟨I,m8⟩:=ex ((b.2.2.map λf=>(f.1,EX f)).map (·.1));obtain⟨r,hD⟩:=ex (tZ (pP b));obtain⟨J,mA⟩:=ex (tV (pP b));obtain⟨t,bD⟩:=ex b.2.2.length;have mB:Hid (StQ t 0 p []):=a8 (by rw[eN,bD];exact StQ.start F gL.out.digs);have mC:r.length=t:=by rw[hD,bD];unfold tZ pP;simp
 rw[<-eN,<-m8,<-hD,<-mA,eG,<-bD];rintro e bE ⟨B,g,s,mD,rfl,mE,mG,n0,n1,qL, -, -, -, -,n2⟩;have M:Hid (t<=50/\s.nn=t/\s.wn=r.length/\p.length<=240):=a8 ⟨by rw[bD];exact F.2.1,n0,by rw[mC];exact n1,by rw[eN];exact m7⟩;have n3:=a8 (b2.out.trans n2);have n4:=a8 (mE.le (K':=13000) om);have n9:=a8 mG;have fA:Hid (w.heap.size<=B):=a8 (aE b2.out.size mD);clear m4 m5 m6 eG F m7 hC eN m8 hD mA bD mC mE mG n0 n1 qL n2 mD b8 b9 hp2 bA;obtain⟨nI,fB⟩:=ex (bE.alloc (.map #[] 0));obtain⟨q,fC⟩:=ex bE.heap.size;have fD:Ext bE nI:=fB▸(Ext.refl bE).alloc _;have o0:=a8 (show LwI w B g q t 0 s I r J p [] (List.replicate p.length []) (λ_=>0) nI from⟨n3.out.trans fD,n4.out.ext fD,n9.out.ext fD,by rw[fB,fC];exact AsM.made bE,mB.out,NeI.start _ _,λ_ _=>rfl,by rw[bW];rfl,lr⟩);have o1:Hid (w.heap.size<=q):=a8 (by rw[fC];exact n3.out.size);have r0:= @run_makeMap prog;go_wp2_with fail;rw[<-fB];rw[<-fC];clear r0 fB fC fD n4 n9 mB h2 lE m0 m1 lG h7 bB b2;go_loopw [7,40] (λhE hG wr=>∃(i:Nat) (h:Int),i<=b1/\hE= .int .i64 h/\hG= .int .i64 (i:Int)/\Hid (∃b3 bG bO,LwI w B g q t i s I r J p b3 bG bO wr)) (λ_ hG _=>((b1:Int) - intOf hG).toNat)
 case atStart=>exact ⟨0,0,zl,rfl,rfl,a8 ⟨_,_,_,o0.out⟩⟩
 case round=>
  obtain⟨i,h,r1,rfl,rfl,hH⟩:=hrel;clear o0;rcases aI r1 with hin |hin
  .subst hin;have r2:¬((i:Int)<i):=om;go_wp2;go_ret;exact⟨rfl,(let ⟨_,_,_,hx⟩:=hH.out;hx.ext)⟩
  .have r2:(i:Int)<b1:=om;obtain⟨b3,bG,bO,hI⟩:=hH.out;obtain⟨o,m⟩:∃o,ops[i]? =some o:=⟨_,aA (by rw[<-q9.out];exact hin)⟩;obtain⟨_,_,rfl,_, -,n,bC⟩:=qA.out i o m;obtain⟨a,r3,r4,r5,r6,r7,r8,r9,rA,u,rB,rC,rD,rG,s0,s1,s2,o2,o3,s3,s4,s5⟩:=id bC
   cases s2
   have k:=hI.ext;have o5:=n wr k 0 _ rfl;have s6:=n wr k 1 _ rfl;have s7:=n wr k 2 _ rfl;have s8:=n wr k 3 _ rfl;have s9:=n wr k 4 _ rfl;have sC:=n wr k 5 _ rfl;have u0:=n wr k 6 _ rfl;have u1:=n wr k 7 _ rfl;have u2:=n wr k 8 _ rfl;have u3:=n wr k 9 _ rfl;have u4:=n wr k 10 _ rfl;have u5:=n wr k 11 _ rfl;have u6:=n wr k 12 _ rfl;simp only[bZ]at o5;obtain⟨u7,o8,hJ,p0,hE⟩:=kR wr #[o.k,o.s,o.c.1,(a,r3,r4),r5,(r6,r7,r8),(r9,rA,u),(rB,rC,rD),o.l0,o.l1,o.l2,o.l3,(rG,s0,s1)] 43;have p1:=a8 (hI.ex hJ);have hK:=a8 (bC.ext (k.trans hJ));have bP:=a8 (aD o2 o3);have p2:=a8 p0;clear hI hH m n bC o2 o3 s3 s4 s5 k hJ p0 hE;go_wp2_with fail;rw[<-o8];clear o8 o5 s6 s7 s8 s9 sC u0 u1 u2 u3 u4 u5 u6;refine(JX _ o u7 hK.out).mono ?_;rintro e u8 ⟨z,rfl,fE⟩;have p3:=a8 (p1.out.ex fE);have hM:=a8 (p2.out.ext fE);have p4:=a8 (hK.out.ext fE);obtain⟨N,O,P,R,S,T,U,V,X,Y,Z,a0,a1,-⟩:=hM.out.cl [0,1,2,3,4,5,6,7,8,9,10,11,12];clear fE p1 p2 hK;go_wp2_with fail;refine(MD _ o u8 p4.out).mono ?_;rintro e u9 ⟨rfl,hN⟩;have a2:=a8 (p3.out.ex hN);have p5:=a8 (hM.out.ext hN);clear hN p3 hM p4 N O P R S T U V X Y Z a0 a1;obtain⟨x,hx⟩:=ex (MC o);rw[<-hx];have p6:=a8 hx;clear hx
   cases x with
   |true=>
    go_wp2;go_ret;exact⟨rfl,a2.out.ext⟩
   |false=>
   obtain⟨hv,p7⟩:=ex (wrap64 (h+z));rw[<-p7];clear p7;by_cases y0:18<hv
   .go_wp2;go_ret;exact⟨rfl,a2.out.ext⟩
   have bR:Hid (o7 [o.c]=false/\nU o.us=false):=a8 (by
    have:=p6.out;unfold MC at this;simp only[Bool.false_eq,eH]at this;exact this.1)
   clear p6;go_wp2_with fail;refine(nV B 13000 g s b3 bG u9 a2.out.lg).mono ?_;obtain⟨c,hO⟩:=ex bG.length;have a3:=a8 hO;rw[<-hO];clear hO;rintro e v0 ⟨rfl,hP⟩;have a4:=a8 (a2.out.ex hP);have p8:=a8 (p5.out.ext hP);have y1:c<=280:=by
    have y2:=a2.out.len;have hR:=a2.out.dl;have hS:=M.out.2.2.2;have hT:=a3.out;omega
   have hU:=a8 (wfA (z:=(c:Int)) om om);have h3:IntKind.i64.wrap ((c:Int) - 1)=(c:Int) - 1:=cY _ ⟨om,om⟩;have bS:Hid (t<=50/\p.length<=240/\i+1<=40):=a8 ⟨M.out.1,M.out.2.2.2,om⟩;clear hP a2 p5;go_wp2_with fail;refine(yL (w0:=w) (gm:=q) (t:=i) (nm:=I) (bs:=r) (ob:=J) ⟨bS.out.1,bS.out.2.1,by have:=bS.out.2.2;omega⟩ c ((c:Int) - 1) rfl (by rw[a3.out];exact lr) v0 a4.out.lg a4.out.fr a4.out.st a4.out.len a4.out.dl).mono ?_;rintro e v1 ⟨_,_,rfl,hV,hW⟩;obtain⟨v2,v3,v4,v5,v6,v7,v8,v9,vA,vB,vC,rfl⟩:=hV.cells;obtain⟨bT,p9,fG,pA,vD⟩:=kR v1 #[v2,(v3,v4,v5),v6,(v7,v8,v9),(vA,vB,vC)] 39;have pB:=a8 (hV.keepT fG.keepT);have d:=a8 ((a4.out.ex hW).ex fG);have pC:=a8 ((p8.out.ext hW).ext fG);have pD:=a8 pA;have pE:Hid (c=p.length+b3.length):=a8 (by rw[a3.out];exact d.out.len);have c0:=a8 (show LwG t i s r p from⟨M.out.1,M.out.2.1,M.out.2.2.1,M.out.2.2.2,om⟩);obtain⟨N,O,P,R,S,T,U,V,X,Y,Z,a0,a1,-⟩:=pC.out.cl [0,1,2,3,4,5,6,7,8,9,10,11,12];clear hV hW fG pA a4 p8 vD;go_upto_region 19 with(fail);rw[<-p9];clear p9;go_upto_block 2 with(fail);obtain⟨v,pG⟩:=ex (bits BinOp.and IntKind.i64 o.k 3);rw[<-pG];clear pG;go_cut [11,12] (λvE vG c1=>Hid (LwO w B g q t i s I r J p b3 bG bT vE vG c1))
   case rest=>
    obtain⟨b4,b5,g0,hX,ns2,u,rfl,rfl,g1,g2,g3,g4,g5,g6,g7,q0⟩:=hcut.out;have hR:=a3.out;have hS:=pE.out;have hT:=d.out.dl;have q1:=d.out.len;clear hcut d pC bP bR N O P R S T U V X Y Z a0 a1;rw[<-a3.out]at q0;rcases q0 with⟨rfl,rfl,⟨w0,rfl⟩,w1⟩ |⟨hY,rfl,rfl,rfl⟩
    .skip;have hZ:Hid (LwI w B g q t (i+1) s I r J p (b3++ [w0]) ns2 u _):=a8 (⟨g1,g2,g3,g4,g5,g6,λx hx=>g7 x om,by rw[aB,fO];omega,by rw[aB,fO];omega⟩);have c2:=a8 b4;have i0:Hid (c<=ns2.length):=a8 om;have c3:Hid ((ns2.length:Int)=c+1):=a8 om;have i1:Hid (ns2.length<=1000):=a8 om;clear b4 g1 g2 g3 g4 g5 g6 g7 hR hS hT q1 w1;go_wp2_with fail;refine(nV B 13000 g s _ ns2 _ hZ.out.lg).mono ?_;rw[c3.out];rintro e g9 ⟨rfl,i2⟩;have l:=a8 (hZ.out.ex i2);have c4:=a8 (c2.out.trans i2.keepL);clear i2 hZ c2;go_wp2_with fail;refine(yL (w0:=w) (gm:=q) (t:=i+1) (nm:=I) (bs:=r) (ob:=J) bS.out c ((c:Int) - 1) rfl i0.out g9 l.out.lg l.out.fr l.out.st l.out.len l.out.dl).mono ?_;rintro e i3 ⟨w2,w3,rfl,K,a5⟩;rw[VP (by have:=pE.out;omega)]at K;obtain⟨i4,i5,i6,i7,j0,j1,j2,j3,j4,j5,j6,rfl⟩:=K.cells;obtain⟨jA,c5,y,c6,jB⟩:=kR i3 #[i4,(i5,i6,i7),j0,(j1,j2,j3),(j4,j5,j6)] 39;have c7:=a8 (K.keepT y.keepT);have c8:=a8 ((l.out.ex a5).ex y);have a6:=c4.out.trans (a5.trans y).keepL;have c9:=a8 (pB.out.keepT a6.keepT);have e0:=a6 _ _ _ de pD.out;obtain⟨jC,jD,jE,jG,k0,-⟩:=e0.cl [0,1,2,3,4];obtain⟨k1,k2,k3,k4,k5,-⟩:=c6.cl [0,1,2,3,4];clear K a5 y l c4 a6 e0 jB c6;go_upto_region 33 with(fail);rw[<-c5];clear c5;go_wp2_with fail;refine(B9 _ _ _ jA c9.out.cnE c7.out.cnE).mono ?_;rintro e k6 ⟨rfl,e1⟩;have a7:=a8 (c8.out.ex e1);clear e1 c8 jC jD jE jG k0 k1 k2 k3 k4 k5 c9 c7;go_wp2_with fail;refine(nV B 13000 g s _ ns2 k6 a7.out.lg).mono ?_;obtain⟨A,C⟩:=ex ((ns2).length);have k7:A<=1000:=by rw[C];exact i1.out
     have HNL:=a8 C;rw[<-C];clear C;rintro e k8 ⟨rfl,e2⟩;have D:=a8 (a7.out.ex e2);clear e2 a7;go_wp2_with fail;refine(AZ ((A:Int) - 1) (by rw[HNL.out]) k8 D.out.lg (by rw[<-HNL.out];exact k7) (λw4 k9=>by have:=D.out.ne.len k9;rw[<-HNL.out]at this;omega)).mono ?_;rintro e wf ⟨w5,e3,rfl,e4,e5,e6⟩;obtain⟨w6,w7,rfl,e7⟩:=e4.opn;have HIf:=a8 (D.out.ex e6);have HATN:=a8 e7;have HIN:=a8 e5;obtain⟨E,hL⟩:=ex e3.length;have w8:E<=1000:=tO0;have HLL:=a8 hL;rw[<-hL];clear e4 e7 e5 e6 hL D;go_wp2_with fail;go_loopw [169] (λa9 kA=>∃j:Nat,j<=E/\a9= .int .i64 (j:Int)/\Ext wf kA) (λa9 _=>((E:Int) - intOf a9).toNat)
     case atStart=>exact ⟨0,zl,rfl,rE⟩
     case round=>
      obtain⟨j,kB,rfl,hEj⟩:=hrel;rcases aI kB with hjl |hjl
      .exact ZK4
      .have hjj:(j:Int)<E:=om;obtain⟨x,hx⟩:∃x,e3[j]? =some x:=⟨_,aA (by rw[<-HLL.out];exact hjl)⟩;obtain⟨w9,rfl,hcx⟩:=HATN.out j x hx;have hq:=hcx wr hEj;obtain⟨wA,wB,hx2⟩:0<=x/\x<(A:Int)/\u x≠0:=xI0;have wC:¬(A:Int)<=x:=om;obtain⟨yy,hyy⟩:=ex (u x);exact TH1
    .skip;have kC:=a8 g2;have c2:=a8 b4;have e8:=a8 g4;have b6:=a8 (aD g1 (aD g3 (aD g5 (aD g6 g7))));have i0:Hid (c<=ns2.length):=a8 om;have c3:Hid ((ns2.length:Int)=c):=a8 om;have i1:Hid (ns2.length<=1000):=a8 om;have q2:Hid (ns2.length=p.length+hX.length/\hX.length<=i+1):=a8 om;have wX:(b5 !=0)=true:=by simpa using hY
     have x0:(b5==0)=false:=by simpa using hY
     clear b4 g1 g2 g3 g4 g5 g6 g7 hR hS hT q1 hY;go_wp2_with fail;refine(nV B 13000 g s _ ns2 _ kC.out).mono ?_;rw[c3.out];rintro e _ ⟨rfl,gA⟩;have q3:=a8 (kC.out.ext gA);have e9:=a8 (e8.out.ext gA);have gG:=a8 gA;clear gA;go_wp2_with (first
      | (at_delete;refine J1 _ rfl _ _ rfl q (i+1) u rfl e9.out (c:Int) rfl hU.out ?_;intro g9 q4 eA)
      |fail)
     have l:=a8 (show LwI w B g q t (i+1) s I r J p hX ns2 (λz=>if z=(c:Int)then 0 else u z) g9 from⟨(b6.out.1.trans gG.out).step eA o1.out,q3.out.chgM eA e9.out.is,(b6.out.2.1.ext gG.out).keepL (yF eA e9.out.is),q4,b6.out.2.2.1,b6.out.2.2.2.1.congr λx _ hx hcx=>(by
      show(if x=(c:Int)then(0:Int)else u x)≠0;rw[if_neg (by have:=c3.out;omega)];exact hcx),λx hx=>(by
      show(if x=(c:Int)then(0:Int)else u x)=0
      by_cases q5:x=(c:Int)
      .rw[if_pos q5]
      .rw[if_neg q5];exact b6.out.2.2.2.2 x (by have:=c3.out;omega)),q2.out.1,q2.out.2⟩)
     have c4:=a8 ((c2.out.trans gG.out.keepL).trans (yF eA e9.out.is));clear q4 eA kC c2 e8 b6 q3 e9 gG wX x0;refine(yL (w0:=w) (gm:=q) (t:=i+1) (nm:=I) (bs:=r) (ob:=J) bS.out c ((c:Int) - 1) rfl i0.out g9 l.out.lg l.out.fr l.out.st l.out.len l.out.dl).mono ?_;rintro e i3 ⟨w2,w3,rfl,K,a5⟩;obtain⟨i4,i5,i6,i7,j0,j1,j2,j3,j4,j5,j6,rfl⟩:=K.cells;obtain⟨jA,c5,y,c6,jB⟩:=kR i3 #[i4,(i5,i6,i7),j0,(j1,j2,j3),(j4,j5,j6)] 39;have c7:=a8 (K.keepT y.keepT);have c8:=a8 ((l.out.ex a5).ex y);have a6:=c4.out.trans (a5.trans y).keepL;have c9:=a8 (pB.out.keepT a6.keepT);have e0:=a6 _ _ _ de pD.out;obtain⟨jC,jD,jE,jG,k0,-⟩:=e0.cl [0,1,2,3,4];obtain⟨k1,k2,k3,k4,k5,-⟩:=c6.cl [0,1,2,3,4];clear K a5 y l c4 a6 e0 jB c6;go_upto_region 33 with(fail);rw[<-c5];clear c5;go_wp2_with fail;refine(B9 _ _ _ jA c9.out.cnE c7.out.cnE).mono ?_;rintro e k6 ⟨rfl,e1⟩;have a7:=a8 (c8.out.ex e1);clear e1 c8 jC jD jE jG k0 k1 k2 k3 k4 k5 c9 c7;go_wp2_with fail;refine(nV B 13000 g s _ ns2 k6 a7.out.lg).mono ?_;obtain⟨A,C⟩:=ex ((ns2).length);have k7:A<=1000:=by rw[C];exact i1.out
     have HNL:=a8 C;rw[<-C];clear C;rintro e k8 ⟨rfl,e2⟩;have D:=a8 (a7.out.ex e2);clear e2 a7;go_wp2_with fail;refine(AZ ((A:Int) - 1) (by rw[HNL.out]) k8 D.out.lg (by rw[<-HNL.out];exact k7) (λw4 k9=>by have:=D.out.ne.len k9;rw[<-HNL.out]at this;omega)).mono ?_;rintro e wf ⟨w5,e3,rfl,e4,e5,e6⟩;obtain⟨w6,w7,rfl,e7⟩:=e4.opn;have HIf:=a8 (D.out.ex e6);have HATN:=a8 e7;have HIN:=a8 e5;obtain⟨E,hL⟩:=ex e3.length;have w8:E<=1000:=tO0;have HLL:=a8 hL;rw[<-hL];clear e4 e7 e5 e6 hL D;go_wp2_with fail;go_loopw [169] (λa9 kA=>∃j:Nat,j<=E/\a9= .int .i64 (j:Int)/\Ext wf kA) (λa9 _=>((E:Int) - intOf a9).toNat)
     case atStart=>exact ⟨0,zl,rfl,rE⟩
     case round=>
      obtain⟨j,kB,rfl,hEj⟩:=hrel;rcases aI kB with hjl |hjl
      .exact ZK4
      .have hjj:(j:Int)<E:=om;obtain⟨x,hx⟩:∃x,e3[j]? =some x:=⟨_,aA (by rw[<-HLL.out];exact hjl)⟩;obtain⟨w9,rfl,hcx⟩:=HATN.out j x hx;have hq:=hcx wr hEj;obtain⟨wA,wB,hx2⟩:0<=x/\x<(A:Int)/\(λz=>if z=(c:Int)then 0 else u z) x≠0:=xI0;have wC:¬(A:Int)<=x:=om;obtain⟨yy,hyy⟩:=ex ((λz=>if z=(c:Int)then 0 else u z) x);exact TH1
   rcases(show v=0∨v=1∨v=2∨(v≠0/\v≠1/\v≠2)by omega)with rfl |rfl |rfl |⟨x1,x2,x3⟩
   .have q6:=bP.out.1.ext d.out.ext;have b0:=a8 q6;clear q6;go_wp2_with fail;refine(H8 c0.out _ o.c bT d.out b0.out bR.out.1).mono ?_;rintro e c1 m;obtain⟨g0,b5,rfl,q7,b4,kD⟩:=d.out.outA fA.out o1.out m;rw[<-a3.out]at kD;have e8:=a8 q7;have x4:=a8 kD;have x5:Hid (bO (c:Int)=0):=a8 (d.out.no _ (by rw[a3.out];exact iP _));have x6:i<maxLen:=by have:=c0.out.t;unfold maxLen;omega
    clear m q7 b4 kD N O P R S T U V X Y Z a0 a1;go_wp2_with (first
     | (at_lookup;refine FE _ rfl _ _ rfl q i bO rfl e8.out (c:Int) rfl hU.out 0 x5.out ?_)
     | (at_mapUpdate;refine J3 _ rfl _ _ _ rfl q i bO rfl e8.out x6 (c:Int) 1 rfl rfl hU.out (wfA om om) ?_;intro h4 x7 x8)
     |fail)
    go_meet;exact a8 (x4.out h4 x7 x8)
   .have b0:=a8 (bP.out.2.ext d.out.ext);go_wp2_with fail;refine(OM c0.out _ o.us o.s bT d.out b0.out bR.out.2).mono ?_;rintro e c1 m;obtain⟨g0,b5,rfl,L⟩:=d.out.out fA.out m (λx hx=>d.out.ne.us hx);have eB:=a8 L;clear m L N O P R S T U V X Y Z a0 a1;go_wp2_with fail;go_meet;exact eB
   .have b0:=a8 (bP.out.2.ext d.out.ext);go_wp2_with fail;refine(JI c0.out _ o.us o.s bT d.out b0.out bR.out.2).mono ?_;rintro e c1 m;obtain⟨g0,b5,rfl,L⟩:=d.out.out fA.out m (λx hx=>d.out.ne.us hx);have eB:=a8 L;clear m L N O P R S T U V X Y Z a0 a1;go_wp2_with fail;go_meet;exact eB
   .have b0:=a8 (bP.out.1.ext d.out.ext);have y3:(v==0)=false:=by simpa using x1
    have y4:(v==1)=false:=by simpa using x2
    have y5:(v==2)=false:=by simpa using x3
    go_wp2_with fail;refine(JJ c0.out _ o.c o.l0 o.l1 o.l2 o.l3 bT d.out b0.out bR.out.1).mono ?_;rintro e c1 m;obtain⟨g0,b5,rfl,L⟩:=d.out.out fA.out m (λx hx=>d.out.ne.sp hx);have eB:=a8 L;clear m L N O P R S T U V X Y Z a0 a1;go_wp2_with fail;go_meet;exact eB
end Go.Proofs.YtjlcilmjfejimaaGreat
